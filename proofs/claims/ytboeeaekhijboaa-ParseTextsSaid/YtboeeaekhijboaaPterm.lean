/- The program's parser: term. -/
import Derived.Test.YtboeeaekhijboaaShort
import Derived.Test.YtboeeaekhijboaaPlam
import Derived.Deep.LoopGhost
namespace Go.Proofs.Ytboeeaekhijboaa
open Go.RowKit
set_option linter.unusedVariables false
set_option linter.unusedSimpArgs false

/-- a term, behind what it opens -/
def termB (ts : List Tok) (s : ByteArray) (typ inner : Nat → Rz Nd) (k : Nat) : Rz Nd :=
 if eatB ts s bLam k = true then lamS ts s typ inner ((tokAt ts s k 0).2.2 : Int) (k + 1) else (atomS ts s inner k).bind fun a k1 => partsS ts s inner (ts.length + 1 - k1) a k1

/-- what the loop over parts keeps -/
def PInv (w wr : World) (rb pb : Nat) (v : Value) (ts : List Tok) (s : ByteArray) (o A D bx : Nat) (inner : Nat → Rz Nd) (R : Rz Nd) (g : Nat) : Prop :=
 ∃ (st : St) (a : Nd) (aa : Option Addr) (ac : Nat), Hid (PS wr rb pb v ts s o st) ∧ Hid (wr.heap[A]? = some (.cells #[.int .i64 0, .string ⟨#[]⟩, .int .i64 0, .slice none 0 0] 51)) ∧ Hid (wr.heap[D]? = some (.cells #[.int .i64 a.kind, .string a.word, .int .i64 a.at, .slice aa a.kids.len ac] 51)) ∧
  Hid (Ts wr (fun x => w.heap.size ≤ x ∧ x < wr.heap.size ∧ x ≠ A ∧ x ≠ D) (.slice aa a.kids.len ac) a.kids) ∧ Hid (Chg (Pw rb pb) w wr) ∧ Hid (wr.cell? ⟨bx, 0, none⟩ = some (.pointer (some ⟨pb, 0, none⟩))) ∧
  Hid ((∃ k f, st = .ok k ∧ R = partsS ts s inner f a k ∧ ts.length + 1 - k ≤ f ∧ g = ts.length + 2 - k) ∨ (∃ x, st = .error x ∧ R = .error x ∧ g = 0))

set_option maxRecDepth 100000 in
set_option maxHeartbeats 32000000 in
theorem term1_any {rb pb bx : Nat} {v : Value} {ts : List Tok} {s : ByteArray} {o : Nat} (typ inner : Nat → Rz Nd) (hfw : Fwd ts inner)
  (hty : ∀ (st : St) (w : World), PS w rb pb v ts s o st → Calls Try.prog 43 #[.pointer (some ⟨pb, 0, none⟩)] w (POut w rb pb v ts s o (st.bind typ)))
  (hte : ∀ (st : St) (w : World), PS w rb pb v ts s o st → Calls Try.prog 40 #[.pointer (some ⟨pb, 0, none⟩)] w (POut w rb pb v ts s o (st.bind inner)))
  {k : Nat} {w : World} (h : PS w rb pb v ts s o (.ok k)) (hbx : w.cell? ⟨bx, 0, none⟩ = some (.pointer (some ⟨pb, 0, none⟩))) (hbp : pb < bx) :
  Calls Try.prog 76 #[.pointer (some ⟨bx, 0, none⟩)] w (POut w rb pb v ts s o (termB ts s typ inner k)) := by
 have G0 := hide (al w (.cells #[.int .i64 0, .string ⟨#[]⟩, .int .i64 0, .slice none 0 0] 51))
 have B0 := hide (blk_new w (.cells #[.int .i64 0, .string ⟨#[]⟩, .int .i64 0, .slice none 0 0] 51))
 have H0 := hide (h.chg G0.out (fun _ _ h => h))
 have hl := h.lt
 have hxl := World.block_lt_of_cell? w _ hbx
 dsimp only at hxl
 have LM := hide (fun at0 st w h => lam_any typ inner hty hte at0 (st := st) (w := w) h)
 have AT := hide (fun k w h => atom_term inner (fun w k h => hte (.ok k) w h) (k := k) (w := w) h)
 have HFW := hide (atomS_fwd (s := s) hfw)
 obtain ⟨A, hA⟩ : ∃ A, w.heap.size = A := ⟨_, rfl⟩
 have HL : Hid (rb < pb ∧ pb < bx ∧ bx < A ∧ w.heap.size = A) := hide ⟨hl.1, hbp, by omega, hA⟩
 have X0 := hide (G0.out.cell (fun h => h) hbx)
 have PK := hide (fun w' (h : PS w' rb pb v ts s o (.ok k)) => peek_some rb rb v ts s k 0 h.le (by have := h.env.len; omega) (by have := h.env.size; omega) w' h.rd h.tks)
 obtain ⟨t, ht⟩ : ∃ t, tokAt ts s k 0 = t := ⟨_, rfl⟩
 have HT := hide ht
 rw [ht] at PK
 rw [hA] at B0
 clear h hl hxl hty hte hfw hA hbx hbp ht
 obtain ⟨t0, t1, t2⟩ := t
 have etv : tokV (t0, t1, t2) = .agg #[.int .i64 t0, .string t1, .int .i64 (t2 : Int)] := rfl
 rw [etv] at PK
 have fl := field46_2 (.int .i64 t0) (.string t1) (.int .i64 (t2 : Int))
 clear etv
 go_enter Try.func76, Try.ntmps76
 have x0 := X0.out
 obtain ⟨c0, _, _, _, _, _⟩ := H0.out.cells
 go_wp2_with fail
 rw [HL.out.2.2.2]
 generalize w.alloc (.cells #[.int .i64 0, .string ⟨#[]⟩, .int .i64 0, .slice none 0 0] 51) = w1 at *
 refine (PK.out w1 H0.out).mono ?_
 rintro e w2 ⟨rfl, g2⟩
 have H2 := hide (H0.out.chg g2 (fun _ _ h => h))
 have B2 := hide (g2.blk B0.out)
 have G2 := hide (G0.out.trans g2)
 have x2 := g2.cell (fun h => h) x0
 clear g2 x0 X0 c0 PK
 have NX := hide (next_any bLam H2.out)
 go_wp2_with fail
 cases hb : eatB ts s bLam k
 ·
  have nb : nextB ts s (.ok k) bLam = false := hb
  have ns : nextSt ts s (.ok k) bLam = .ok k := by simp [nextSt, hb]
  rw [nb, ns] at NX
  have TB : Hid (termB ts s typ inner k = (atomS ts s inner k).bind fun a k1 => partsS ts s inner (ts.length + 1 - k1) a k1) := hide (by unfold termB; rw [if_neg (by rw [hb]; decide)])
  have FW0 := hide (HFW.out k H2.out.le)
  clear nb ns hb LM
  generalize termB ts s typ inner k = R at *
  refine NX.out.mono ?_
  rintro e w3 ⟨rfl, h3, g3⟩
  have H3 := hide h3
  have B3 := hide (g3.blkS (by have := HL.out; omega) B2.out)
  have G3 := hide (G2.out.none.trans (g3.mono (T := Pw rb pb) (fun x _ h => Or.inr h)))
  have x3 := g3.cell (by have := HL.out; omega) x2
  clear h3 g3 NX x2
  have A3 := hide (AT.out k w3 H3.out)
  go_wp2_with fail
  refine A3.out.mono ?_
  rintro e w4 ⟨⟨u, a, rfl, ha, hq⟩, h4, g4⟩
  obtain ⟨aa, ac, rfl, _⟩ := id ha
  have GE := al w4 (.cells #[.int .i64 a.kind, .string a.word, .int .i64 a.at, .slice aa a.kids.len ac] 51)
  have D4 := hide (blk_new w4 (.cells #[.int .i64 a.kind, .string a.word, .int .i64 a.at, .slice aa a.kids.len ac] 51))
  have B4 := hide (GE.blk (g4.blkS (by have := HL.out; rintro (e | e) <;> omega) B3.out))
  have H4 := hide (h4.chg GE (fun _ _ h => h))
  have G4 := hide ((G3.out.trans g4).trans GE.none)
  have x4 := hide (GE.cell (fun h => h) (g4.cell (by have := HL.out; rintro (e | e) <;> omega) x3))
  have hA3 := olt B3.out
  have hA4 := g4.size
  have DL : Hid (A < w4.heap.size ∧ rb < pb ∧ pb < bx ∧ bx < A ∧ w.heap.size = A) := hide ⟨by omega, HL.out⟩
  have N4 := hide ((ha.chg GE (fun _ _ h => h)).up (Y := fun x => w.heap.size ≤ x ∧ x < (w4.alloc (.cells #[.int .i64 a.kind, .string a.word, .int .i64 a.at, .slice aa a.kids.len ac] 51)).heap.size ∧ x ≠ A ∧ x ≠ w4.heap.size) (fun x hx => ⟨by have := HL.out; omega, by have := GE.size; omega, by omega, by omega⟩))
  obtain ⟨D, hD⟩ : ∃ D, w4.heap.size = D := ⟨_, rfl⟩
  rw [hD] at D4 N4 DL
  have I4 : Hid (∃ g, PInv w (w4.alloc (.cells #[.int .i64 a.kind, .string a.word, .int .i64 a.at, .slice aa a.kids.len ac] 51)) rb pb v ts s o A D bx inner R g) := hide (by
   obtain ⟨aa', ac', e1, N4⟩ := N4.out
   injection e1 with e1
   have e2 := congrArg (fun l => l[3]?) e1
   simp at e2
   obtain ⟨rfl, rfl⟩ := e2
   cases e : atomS ts s inner k with
   | error x =>
     refine ⟨0, (.error x), a, aa, ac, ?_, B4, D4, N4, G4, x4, Or.inr ⟨x, rfl, by rw [TB.out, e]; rfl, rfl⟩⟩
     have := H4.out; rw [e] at this; exact this
   | ok q =>
     have e3 := hq q e
     refine ⟨ts.length + 2 - q.2, (.ok q.2), a, aa, ac, ?_, B4, D4, N4, G4, x4, Or.inl ⟨q.2, ts.length + 1 - q.2, rfl, by rw [TB.out, e, e3]; rfl, Nat.le_refl _, rfl⟩⟩
     have := H4.out; rw [e] at this; exact this)
  clear h4 g4 GE ha hq hA3 hA4 N4 x4 G4 H4 B4 D4 A3 TB FW0 x3 H3 B3 G3
  obtain ⟨g0, I0⟩ := I4.out
  have I0 := hide I0
  clear I4
  go_wp2_with fail
  clear hD
  generalize w4.alloc (.cells #[.int .i64 a.kind, .string a.word, .int .i64 a.at, .slice aa a.kids.len ac] 51) = w5 at *
  go_loopg [20] g0 (fun g d wr => Hid (PInv w wr rb pb v ts s o A D bx inner R g))
  case atStart => exact I0
  case round =>
   have hI := hrel
   clear I0 hrel
   obtain ⟨st, a, aa, ac, H5, B5, D5, N5, G5, X5, J5⟩ := hI.out
   clear hI
   obtain ⟨a0, a1, a2, a3⟩ := a
   dsimp only [Nd.kind, Nd.word, Nd.at, Nd.kids] at *
   have x5 := X5.out
   have p0 := blk_cell D5.out 0
   have p1 := blk_cell D5.out 1
   have p2 := blk_cell D5.out 2
   have p3 := blk_cell D5.out 3
   simp only [gets] at p0 p1 p2 p3
   have PT := hide (part_any H5.out)
   cases hp : partV ts s st
   ·
    have QF : Hid (R.st = st ∧ ∀ q, R = .ok q → ((a0, a1, a2, a3) : Nd) = q.1) := hide (by
     rcases J5.out with ⟨k, f, rfl, e, hf, -⟩ | ⟨x, rfl, e, -⟩
     ·
      have hle : k ≤ ts.length := H5.out.le
      obtain ⟨f', rfl⟩ : ∃ f', f = f' + 1 := ⟨f - 1, by omega⟩
      have hp' : partB ts s k = false := hp
      simp only [partsS] at e
      rw [if_neg (by rw [hp']; decide)] at e
      rw [e]
      exact ⟨rfl, fun q hq => by cases hq; rfl⟩
     ·
      rw [e]
      exact ⟨rfl, fun q hq => by cases hq⟩)
    rw [hp] at PT
    clear hp J5
    go_wp2_with fail
    refine PT.out.mono ?_
    rintro e w6 ⟨rfl, g6⟩
    have H6 : Hid (PS w6 rb pb v ts s o R.st) := hide (by rw [QF.out.1]; exact H5.out.chg g6 (fun _ _ h => h))
    have B6 := hide (g6.blk B5.out)
    have G6 := hide (G5.out.trans g6.none)
    have N6 := hide (N5.out.chg g6 (fun _ _ h => h))
    have SZ6 := hide g6.size
    have y0 := g6.cell (fun h => h) p0
    have y1 := g6.cell (fun h => h) p1
    have y2 := g6.cell (fun h => h) p2
    have y3 := g6.cell (fun h => h) p3
    clear g6 p0 p1 p2 p3 x5
    have b0 := blk_cell B6.out 0
    have b1 := blk_cell B6.out 1
    have b2 := blk_cell B6.out 2
    have b3 := blk_cell B6.out 3
    have f0 := blk_free B6.out 0
    have f1 := blk_free B6.out 1
    have f2 := blk_free B6.out 2
    have f3 := blk_free B6.out 3
    have NS := hide (nv_set B6.out (.int .i64 a0) (.string a1) (.int .i64 a2) (.slice aa a3.len ac))
    have FS := hide (H6.out.chg NS.out.2 (fun x hx e => by have h1 := HL.out; omega))
    have CS := hide (chg_fresh G6.out NS.out.2 (by have h1 := HL.out; omega))
    go_wp2_with fail
    generalize ((((w6.setCell ⟨A, 0, none⟩ (.int .i64 a0)).setCell ⟨A, 1, none⟩ (.string a1)).setCell ⟨A, 2, none⟩ (.int .i64 a2)).setCell ⟨A, 3, none⟩ (.slice aa a3.len ac)) = wF at *
    have r0 := blk_cell NS.out.1 0
    have r1 := blk_cell NS.out.1 1
    have r2 := blk_cell NS.out.1 2
    have r3 := blk_cell NS.out.1 3
    refine bodyPost_ret (v := .agg #[.int .i64 a0, .string a1, .int .i64 a2, .slice aa a3.len ac]) (by simp [results, Try.results76, go_sem, r0, r1, r2, r3]) rfl ?_
    have N7 := N6.out.chg NS.out.2 (fun x hx e => hx.2.2.1 e)
    exact ⟨⟨_, _, rfl, ⟨aa, ac, rfl, N7.up (fun x hx => ⟨hx.1, by have h1 := NS.out.2.size; have h2 := SZ6.out; omega⟩)⟩, QF.out.2⟩, FS.out, CS.out⟩
   ·
    obtain ⟨k1, f, rfl, QR, QK⟩ : ∃ k1 f, st = .ok k1 ∧ Hid (R = (atomS ts s inner k1).bind fun m k2 => partsS ts s inner f (4, bNone, a2, twoN (a0, a1, a2, a3) m) k2) ∧ Hid (ts.length + 1 - k1 ≤ f + 1 ∧ gk = ts.length + 2 - k1 ∧ k1 ≤ ts.length) := by
     rcases J5.out with ⟨k, f, rfl, e, hf, hg⟩ | ⟨x, rfl, e, -⟩
     ·
      have hle : k ≤ ts.length := H5.out.le
      obtain ⟨f', rfl⟩ : ∃ f', f = f' + 1 := ⟨f - 1, by omega⟩
      have hp' : partB ts s k = true := hp
      simp only [partsS] at e
      rw [if_pos hp'] at e
      exact ⟨k, f', rfl, e, hf, hg, hle⟩
     ·
      exact absurd hp (by simp [partV])
    rw [hp] at PT
    clear hp J5
    have FW1 := hide (HFW.out k1 QK.out.2.2)
    go_wp2_with fail
    refine PT.out.mono ?_
    rintro e w6 ⟨rfl, g6⟩
    have H6 := hide (H5.out.chg (g6.trans (Chg.refl (fun _ => False) w6).drew) (fun _ _ h => h))
    have B6 := hide (g6.blk B5.out)
    have D6 := hide (g6.blk D5.out)
    have G6 := hide ((G5.out.trans g6.none).drew)
    have N6 := hide ((N5.out.chg (g6.trans (Chg.refl (fun _ => False) w6).drew) (fun _ _ h => h)))
    have SZ6 := hide g6.size
    have y0 := g6.cell (fun h => h) p0
    have y1 := g6.cell (fun h => h) p1
    have y2 := g6.cell (fun h => h) p2
    have y3 := g6.cell (fun h => h) p3
    have x6 := g6.cell (fun h => h) x5
    clear g6 p0 p1 p2 p3 x5
    have A6 := hide (AT.out k1 w6.drew H6.out)
    generalize atomS ts s inner k1 = r at *
    go_wp2_with fail
    refine wp_region_held_drew (S := (fun w' => w'.cell? ⟨bx, 0, none⟩ = some (.pointer (some ⟨pb, 0, none⟩)))) (by kernel_rfl) (by go_keep) (fun hHeld => ?_)
    first
     | (refine tku 0 ?_)
     | (refine tkl 0 ?_ ?_ ?_
        rotate_left
        (intro w hSw
         (try dsimp only at hSw)
         (go_simp <;> with_reducible rfl)))
    try simp only [Act.put, puts]
    first
     | (refine tku 3 ?_)
     | (refine tkl 3 ?_ ?_ ?_
        rotate_left
        (intro w hSw
         (try dsimp only at hSw)
         (go_simp <;> with_reducible rfl)))
    try simp only [Act.put, puts]
    first
     | (refine tku 4 ?_)
     | (refine tkl 4 ?_ ?_ ?_
        rotate_left
        (intro w hSw
         (try dsimp only at hSw)
         (go_simp <;> with_reducible rfl)))
    try simp only [Act.put, puts]
    first
     | (refine tku 5 ?_)
     | (refine tkl 5 ?_ ?_ ?_
        rotate_left
        (intro w hSw
         (try dsimp only at hSw)
         (go_simp <;> with_reducible rfl)))
    try simp only [Act.put, puts]
    refine wpAnyH_ready (rs := [1, 2, 6]) (by kernel_rfl) (by simp) ?_
    refine AllReadyH.cons (i := 1) (o := _) rfl (fun K hK => ?_) ?_
    ·
     go_simp
     refine hK.out _ _ x6 (fun hHeld => ?_)
     clear hK K
     try simp only [Act.put, puts]
     refine wpAnyH_ready (rs := [2, 6]) (by kernel_rfl) (by simp) ?_
     refine AllReadyH.cons (i := 2) (o := _) rfl (fun K hK => ?_) ?_
     ·
      go_simp
      refine hK.out _ _ x6 (fun hHeld => ?_)
      clear hK K
      try simp only [Act.put, puts]
      refine rd1 6 (fun K hK => ?_)
      go_simp
      refine A6.out.mono ?_
      rintro e w7 ⟨⟨u, m, rfl, hm, hqm⟩, h7, g7⟩
      obtain ⟨ma, mc, rfl, _⟩ := id hm
      have HQM := hide hqm
      obtain ⟨m0, m1, m2, m3⟩ := m
      dsimp only [Nd.kind, Nd.word, Nd.at, Nd.kids] at *
      have hv6 : w6.drew.heap.size = w6.heap.size := rfl
      have GF := al w7 (.cells #[.int .i64 a0, .string a1, .int .i64 a2, .slice aa a3.len ac, .int .i64 m0, .string m1, .int .i64 m2, .slice ma m3.len mc] 51)
      have BF := hide (blk_new w7 (.cells #[.int .i64 a0, .string a1, .int .i64 a2, .slice aa a3.len ac, .int .i64 m0, .string m1, .int .i64 m2, .slice ma m3.len mc] 51))
      have H8 := hide (h7.chg GF (fun _ _ h => h))
      have B8 := hide (GF.blk (g7.blkS (by have := DL.out; rintro (e | e) <;> omega) B6.out))
      have D8 := hide (GF.blk (g7.blkS (by have := DL.out; rintro (e | e) <;> omega) D6.out))
      have G8 := hide ((G6.out.trans g7).trans GF.none)
      have hD6 := olt D6.out
      have hD7 := g7.size
      have NA := ((N6.out.chg g7 (fun x hx e => by have := hx.1; have := DL.out; rcases e with e | e <;> omega)).chg GF (fun _ _ h => h)).up (Y := fun x => w.heap.size ≤ x ∧ x < w7.heap.size + 1 ∧ x ≠ A ∧ x ≠ D) (fun x hx => ⟨hx.1, by have := SZ6.out; omega, hx.2.2.1, hx.2.2.2⟩)
      have NB := (hm.chg GF (fun _ _ h => h)).up (Y := fun x => w.heap.size ≤ x ∧ x < w7.heap.size + 1 ∧ x ≠ A ∧ x ≠ D) (fun x hx => ⟨by have := DL.out; omega, by omega, by have := DL.out; omega, by omega⟩)
      obtain ⟨_, _, eb, NB⟩ := NB
      have N8 := hide (nv_two (X := fun x => w.heap.size ≤ x ∧ x < w7.heap.size + 1 ∧ x ≠ A ∧ x ≠ D) (g := w7.heap.size) (n := (a0, a1, a2, a3)) (m := (m0, m1, m2, m3)) 4 a2 ⟨by have := DL.out; omega, by omega, by have := DL.out; omega, by omega⟩ BF.out NA (by cases eb; exact NB))
      have z0 := g7.cell (by have := DL.out; rintro (e | e) <;> omega) y0
      have z1 := g7.cell (by have := DL.out; rintro (e | e) <;> omega) y1
      have z2 := g7.cell (by have := DL.out; rintro (e | e) <;> omega) y2
      have z3 := g7.cell (by have := DL.out; rintro (e | e) <;> omega) y3
      have x7 := g7.cell (by have := DL.out; rintro (e | e) <;> omega) x6
      have t0' := GF.cell (fun h => h) z0
      have t1' := GF.cell (fun h => h) z1
      have t2' := GF.cell (fun h => h) z2
      have t3' := GF.cell (fun h => h) z3
      have x8 := GF.cell (fun h => h) x7
      have SZ8 : Hid (w7.heap.size + 1 = (w7.alloc (.cells #[.int .i64 a0, .string a1, .int .i64 a2, .slice aa a3.len ac, .int .i64 m0, .string m1, .int .i64 m2, .slice ma m3.len mc] 51)).heap.size) := hide (by rw [al_sz])
      clear h7 g7 GF hm NA NB eb hv6 hD6 hD7 hqm
      go_simp
      refine hK.out _ _ x7 (fun hHeld => ?_)
      clear hK K
      try simp only [Act.put, puts]
      refine rd1 7 (fun K hK => ?_)
      go_simp
      refine hK.out _ _ x8 (fun hHeld => ?_)
      clear hK K
      try simp only [Act.put, puts]
      first
       | (refine tku 8 ?_)
       | (refine tkl 8 ?_ ?_ ?_
          rotate_left
          (intro w hSw
           (try dsimp only at hSw)
           (go_simp <;> with_reducible rfl)))
      try simp only [Act.put, puts]
      refine rd1 9 (fun K hK => ?_)
      obtain ⟨F, hF⟩ : ∃ F, w7.heap.size = F := ⟨_, rfl⟩
      rw [hF] at N8 SZ8 ⊢
      clear hF
      generalize w7.alloc (.cells #[.int .i64 a0, .string a1, .int .i64 a2, .slice aa a3.len ac, .int .i64 m0, .string m1, .int .i64 m2, .slice ma m3.len mc] 51) = w8 at *
      have b0 := blk_cell D8.out 0
      have b1 := blk_cell D8.out 1
      have b2 := blk_cell D8.out 2
      have b3 := blk_cell D8.out 3
      have f0 := blk_free D8.out 0
      have f1 := blk_free D8.out 1
      have f2 := blk_free D8.out 2
      have f3 := blk_free D8.out 3
      have NS := hide (nv_set D8.out (.int .i64 4) (.string ⟨#[]⟩) (.int .i64 a2) (.slice (some ⟨F, 0, none⟩) 2 2))
      have FS := hide (H8.out.chg NS.out.2 (fun x hx e => by have h1 := DL.out; omega))
      have CS := hide (chg_fresh G8.out NS.out.2 (by have h1 := DL.out; omega))
      have BS := hide (NS.out.2.blkS (by have := DL.out; omega) B8.out)
      have x9 := NS.out.2.cell (by have := DL.out; omega) x8
      have N9 := hide (N8.out.chg NS.out.2 (fun x hx e => hx.2.2.2 e))
      have IN : Hid (∃ g', g' < gk ∧ PInv w ((((w8.setCell ⟨D, 0, none⟩ (.int .i64 4)).setCell ⟨D, 1, none⟩ (.string ⟨#[]⟩)).setCell ⟨D, 2, none⟩ (.int .i64 a2)).setCell ⟨D, 3, none⟩ (.slice (some ⟨F, 0, none⟩) 2 2)) rb pb v ts s o A D bx inner R g') := hide (by
       obtain ⟨ka, kc, ek, NN⟩ := N9.out
       have NN : Ts ((((w8.setCell ⟨D, 0, none⟩ (.int .i64 4)).setCell ⟨D, 1, none⟩ (.string ⟨#[]⟩)).setCell ⟨D, 2, none⟩ (.int .i64 a2)).setCell ⟨D, 3, none⟩ (.slice (some ⟨F, 0, none⟩) 2 2)) (fun x => w.heap.size ≤ x ∧ x < F + 1 ∧ x ≠ A ∧ x ≠ D) (.slice (some ⟨F, 0, none⟩) 2 2) (twoN (a0, a1, a2, a3) (m0, m1, m2, m3)) := by cases ek; exact NN
       have NN := NN.up (Y := fun x => w.heap.size ≤ x ∧ x < ((((w8.setCell ⟨D, 0, none⟩ (.int .i64 4)).setCell ⟨D, 1, none⟩ (.string ⟨#[]⟩)).setCell ⟨D, 2, none⟩ (.int .i64 a2)).setCell ⟨D, 3, none⟩ (.slice (some ⟨F, 0, none⟩) 2 2)).heap.size ∧ x ≠ A ∧ x ≠ D) (fun x hx => ⟨hx.1, by have h1 := NS.out.2.size; have h2 := SZ8.out; omega, hx.2.2⟩)
       have hfw := FW1.out
       have hk := QK.out
       have hr := QR.out
       cases r with
       | error x => exact ⟨0, by omega, .error x, (4, bNone, a2, twoN (a0, a1, a2, a3) (m0, m1, m2, m3)), _, _, FS.out, BS, NS.out.1, NN, CS.out, x9, Or.inr ⟨x, rfl, hr, rfl⟩⟩
       | ok q =>
         have e3 := HQM.out q rfl
         dsimp only at hfw
         exact ⟨ts.length + 2 - q.2, by omega, .ok q.2, (4, bNone, a2, twoN (a0, a1, a2, a3) (m0, m1, m2, m3)), _, _, FS.out, BS, NS.out.1, NN, CS.out, x9, Or.inl ⟨q.2, f, rfl, by rw [hr, e3]; rfl, by omega, rfl⟩⟩)
      clear N9 FS CS BS H8 B8 D8 G8
      go_simp
      refine hK.out _ _ x9 (fun hHeld => ?_)
      clear hK K
      try simp only [Act.put, puts]
      refine wpAnyH_done (by kernel_rfl) ?_ _
      go_wp2_with fail
      obtain ⟨g', hg', HI⟩ := IN.out
      have HI := hide HI
      clear IN
      generalize ((((w8.setCell ⟨D, 0, none⟩ (.int .i64 4)).setCell ⟨D, 1, none⟩ (.string ⟨#[]⟩)).setCell ⟨D, 2, none⟩ (.int .i64 a2)).setCell ⟨D, 3, none⟩ (.slice (some ⟨F, 0, none⟩) 2 2)) = w9 at *
      go_roundg g'
      case measure => exact hg'
      case rel => exact HI
     refine AllReadyH.cons (i := 6) (o := _) rfl (fun K hK => ?_) ?_
     rotate_left
     ·
      exact AllReadyH.nil
     go_simp
     refine A6.out.mono ?_
     rintro e w7 ⟨⟨u, m, rfl, hm, hqm⟩, h7, g7⟩
     obtain ⟨ma, mc, rfl, _⟩ := id hm
     have HQM := hide hqm
     obtain ⟨m0, m1, m2, m3⟩ := m
     dsimp only [Nd.kind, Nd.word, Nd.at, Nd.kids] at *
     have hv6 : w6.drew.heap.size = w6.heap.size := rfl
     have GF := al w7 (.cells #[.int .i64 a0, .string a1, .int .i64 a2, .slice aa a3.len ac, .int .i64 m0, .string m1, .int .i64 m2, .slice ma m3.len mc] 51)
     have BF := hide (blk_new w7 (.cells #[.int .i64 a0, .string a1, .int .i64 a2, .slice aa a3.len ac, .int .i64 m0, .string m1, .int .i64 m2, .slice ma m3.len mc] 51))
     have H8 := hide (h7.chg GF (fun _ _ h => h))
     have B8 := hide (GF.blk (g7.blkS (by have := DL.out; rintro (e | e) <;> omega) B6.out))
     have D8 := hide (GF.blk (g7.blkS (by have := DL.out; rintro (e | e) <;> omega) D6.out))
     have G8 := hide ((G6.out.trans g7).trans GF.none)
     have hD6 := olt D6.out
     have hD7 := g7.size
     have NA := ((N6.out.chg g7 (fun x hx e => by have := hx.1; have := DL.out; rcases e with e | e <;> omega)).chg GF (fun _ _ h => h)).up (Y := fun x => w.heap.size ≤ x ∧ x < w7.heap.size + 1 ∧ x ≠ A ∧ x ≠ D) (fun x hx => ⟨hx.1, by have := SZ6.out; omega, hx.2.2.1, hx.2.2.2⟩)
     have NB := (hm.chg GF (fun _ _ h => h)).up (Y := fun x => w.heap.size ≤ x ∧ x < w7.heap.size + 1 ∧ x ≠ A ∧ x ≠ D) (fun x hx => ⟨by have := DL.out; omega, by omega, by have := DL.out; omega, by omega⟩)
     obtain ⟨_, _, eb, NB⟩ := NB
     have N8 := hide (nv_two (X := fun x => w.heap.size ≤ x ∧ x < w7.heap.size + 1 ∧ x ≠ A ∧ x ≠ D) (g := w7.heap.size) (n := (a0, a1, a2, a3)) (m := (m0, m1, m2, m3)) 4 a2 ⟨by have := DL.out; omega, by omega, by have := DL.out; omega, by omega⟩ BF.out NA (by cases eb; exact NB))
     have z0 := g7.cell (by have := DL.out; rintro (e | e) <;> omega) y0
     have z1 := g7.cell (by have := DL.out; rintro (e | e) <;> omega) y1
     have z2 := g7.cell (by have := DL.out; rintro (e | e) <;> omega) y2
     have z3 := g7.cell (by have := DL.out; rintro (e | e) <;> omega) y3
     have x7 := g7.cell (by have := DL.out; rintro (e | e) <;> omega) x6
     have t0' := GF.cell (fun h => h) z0
     have t1' := GF.cell (fun h => h) z1
     have t2' := GF.cell (fun h => h) z2
     have t3' := GF.cell (fun h => h) z3
     have x8 := GF.cell (fun h => h) x7
     have SZ8 : Hid (w7.heap.size + 1 = (w7.alloc (.cells #[.int .i64 a0, .string a1, .int .i64 a2, .slice aa a3.len ac, .int .i64 m0, .string m1, .int .i64 m2, .slice ma m3.len mc] 51)).heap.size) := hide (by rw [al_sz])
     clear h7 g7 GF hm NA NB eb hv6 hD6 hD7 hqm
     go_simp
     refine hK.out _ _ x7 (fun hHeld => ?_)
     clear hK K
     try simp only [Act.put, puts]
     refine rd1 2 (fun K hK => ?_)
     go_simp
     refine hK.out _ _ x7 (fun hHeld => ?_)
     clear hK K
     try simp only [Act.put, puts]
     refine rd1 7 (fun K hK => ?_)
     go_simp
     refine hK.out _ _ x8 (fun hHeld => ?_)
     clear hK K
     try simp only [Act.put, puts]
     first
      | (refine tku 8 ?_)
      | (refine tkl 8 ?_ ?_ ?_
         rotate_left
         (intro w hSw
          (try dsimp only at hSw)
          (go_simp <;> with_reducible rfl)))
     try simp only [Act.put, puts]
     refine rd1 9 (fun K hK => ?_)
     obtain ⟨F, hF⟩ : ∃ F, w7.heap.size = F := ⟨_, rfl⟩
     rw [hF] at N8 SZ8 ⊢
     clear hF
     generalize w7.alloc (.cells #[.int .i64 a0, .string a1, .int .i64 a2, .slice aa a3.len ac, .int .i64 m0, .string m1, .int .i64 m2, .slice ma m3.len mc] 51) = w8 at *
     have b0 := blk_cell D8.out 0
     have b1 := blk_cell D8.out 1
     have b2 := blk_cell D8.out 2
     have b3 := blk_cell D8.out 3
     have f0 := blk_free D8.out 0
     have f1 := blk_free D8.out 1
     have f2 := blk_free D8.out 2
     have f3 := blk_free D8.out 3
     have NS := hide (nv_set D8.out (.int .i64 4) (.string ⟨#[]⟩) (.int .i64 a2) (.slice (some ⟨F, 0, none⟩) 2 2))
     have FS := hide (H8.out.chg NS.out.2 (fun x hx e => by have h1 := DL.out; omega))
     have CS := hide (chg_fresh G8.out NS.out.2 (by have h1 := DL.out; omega))
     have BS := hide (NS.out.2.blkS (by have := DL.out; omega) B8.out)
     have x9 := NS.out.2.cell (by have := DL.out; omega) x8
     have N9 := hide (N8.out.chg NS.out.2 (fun x hx e => hx.2.2.2 e))
     have IN : Hid (∃ g', g' < gk ∧ PInv w ((((w8.setCell ⟨D, 0, none⟩ (.int .i64 4)).setCell ⟨D, 1, none⟩ (.string ⟨#[]⟩)).setCell ⟨D, 2, none⟩ (.int .i64 a2)).setCell ⟨D, 3, none⟩ (.slice (some ⟨F, 0, none⟩) 2 2)) rb pb v ts s o A D bx inner R g') := hide (by
      obtain ⟨ka, kc, ek, NN⟩ := N9.out
      have NN : Ts ((((w8.setCell ⟨D, 0, none⟩ (.int .i64 4)).setCell ⟨D, 1, none⟩ (.string ⟨#[]⟩)).setCell ⟨D, 2, none⟩ (.int .i64 a2)).setCell ⟨D, 3, none⟩ (.slice (some ⟨F, 0, none⟩) 2 2)) (fun x => w.heap.size ≤ x ∧ x < F + 1 ∧ x ≠ A ∧ x ≠ D) (.slice (some ⟨F, 0, none⟩) 2 2) (twoN (a0, a1, a2, a3) (m0, m1, m2, m3)) := by cases ek; exact NN
      have NN := NN.up (Y := fun x => w.heap.size ≤ x ∧ x < ((((w8.setCell ⟨D, 0, none⟩ (.int .i64 4)).setCell ⟨D, 1, none⟩ (.string ⟨#[]⟩)).setCell ⟨D, 2, none⟩ (.int .i64 a2)).setCell ⟨D, 3, none⟩ (.slice (some ⟨F, 0, none⟩) 2 2)).heap.size ∧ x ≠ A ∧ x ≠ D) (fun x hx => ⟨hx.1, by have h1 := NS.out.2.size; have h2 := SZ8.out; omega, hx.2.2⟩)
      have hfw := FW1.out
      have hk := QK.out
      have hr := QR.out
      cases r with
      | error x => exact ⟨0, by omega, .error x, (4, bNone, a2, twoN (a0, a1, a2, a3) (m0, m1, m2, m3)), _, _, FS.out, BS, NS.out.1, NN, CS.out, x9, Or.inr ⟨x, rfl, hr, rfl⟩⟩
      | ok q =>
        have e3 := HQM.out q rfl
        dsimp only at hfw
        exact ⟨ts.length + 2 - q.2, by omega, .ok q.2, (4, bNone, a2, twoN (a0, a1, a2, a3) (m0, m1, m2, m3)), _, _, FS.out, BS, NS.out.1, NN, CS.out, x9, Or.inl ⟨q.2, f, rfl, by rw [hr, e3]; rfl, by omega, rfl⟩⟩)
     clear N9 FS CS BS H8 B8 D8 G8
     go_simp
     refine hK.out _ _ x9 (fun hHeld => ?_)
     clear hK K
     try simp only [Act.put, puts]
     refine wpAnyH_done (by kernel_rfl) ?_ _
     go_wp2_with fail
     obtain ⟨g', hg', HI⟩ := IN.out
     have HI := hide HI
     clear IN
     generalize ((((w8.setCell ⟨D, 0, none⟩ (.int .i64 4)).setCell ⟨D, 1, none⟩ (.string ⟨#[]⟩)).setCell ⟨D, 2, none⟩ (.int .i64 a2)).setCell ⟨D, 3, none⟩ (.slice (some ⟨F, 0, none⟩) 2 2)) = w9 at *
     go_roundg g'
     case measure => exact hg'
     case rel => exact HI
    refine AllReadyH.cons (i := 2) (o := _) rfl (fun K hK => ?_) ?_
    ·
     go_simp
     refine hK.out _ _ x6 (fun hHeld => ?_)
     clear hK K
     try simp only [Act.put, puts]
     refine wpAnyH_ready (rs := [1, 6]) (by kernel_rfl) (by simp) ?_
     refine AllReadyH.cons (i := 1) (o := _) rfl (fun K hK => ?_) ?_
     ·
      go_simp
      refine hK.out _ _ x6 (fun hHeld => ?_)
      clear hK K
      try simp only [Act.put, puts]
      refine rd1 6 (fun K hK => ?_)
      go_simp
      refine A6.out.mono ?_
      rintro e w7 ⟨⟨u, m, rfl, hm, hqm⟩, h7, g7⟩
      obtain ⟨ma, mc, rfl, _⟩ := id hm
      have HQM := hide hqm
      obtain ⟨m0, m1, m2, m3⟩ := m
      dsimp only [Nd.kind, Nd.word, Nd.at, Nd.kids] at *
      have hv6 : w6.drew.heap.size = w6.heap.size := rfl
      have GF := al w7 (.cells #[.int .i64 a0, .string a1, .int .i64 a2, .slice aa a3.len ac, .int .i64 m0, .string m1, .int .i64 m2, .slice ma m3.len mc] 51)
      have BF := hide (blk_new w7 (.cells #[.int .i64 a0, .string a1, .int .i64 a2, .slice aa a3.len ac, .int .i64 m0, .string m1, .int .i64 m2, .slice ma m3.len mc] 51))
      have H8 := hide (h7.chg GF (fun _ _ h => h))
      have B8 := hide (GF.blk (g7.blkS (by have := DL.out; rintro (e | e) <;> omega) B6.out))
      have D8 := hide (GF.blk (g7.blkS (by have := DL.out; rintro (e | e) <;> omega) D6.out))
      have G8 := hide ((G6.out.trans g7).trans GF.none)
      have hD6 := olt D6.out
      have hD7 := g7.size
      have NA := ((N6.out.chg g7 (fun x hx e => by have := hx.1; have := DL.out; rcases e with e | e <;> omega)).chg GF (fun _ _ h => h)).up (Y := fun x => w.heap.size ≤ x ∧ x < w7.heap.size + 1 ∧ x ≠ A ∧ x ≠ D) (fun x hx => ⟨hx.1, by have := SZ6.out; omega, hx.2.2.1, hx.2.2.2⟩)
      have NB := (hm.chg GF (fun _ _ h => h)).up (Y := fun x => w.heap.size ≤ x ∧ x < w7.heap.size + 1 ∧ x ≠ A ∧ x ≠ D) (fun x hx => ⟨by have := DL.out; omega, by omega, by have := DL.out; omega, by omega⟩)
      obtain ⟨_, _, eb, NB⟩ := NB
      have N8 := hide (nv_two (X := fun x => w.heap.size ≤ x ∧ x < w7.heap.size + 1 ∧ x ≠ A ∧ x ≠ D) (g := w7.heap.size) (n := (a0, a1, a2, a3)) (m := (m0, m1, m2, m3)) 4 a2 ⟨by have := DL.out; omega, by omega, by have := DL.out; omega, by omega⟩ BF.out NA (by cases eb; exact NB))
      have z0 := g7.cell (by have := DL.out; rintro (e | e) <;> omega) y0
      have z1 := g7.cell (by have := DL.out; rintro (e | e) <;> omega) y1
      have z2 := g7.cell (by have := DL.out; rintro (e | e) <;> omega) y2
      have z3 := g7.cell (by have := DL.out; rintro (e | e) <;> omega) y3
      have x7 := g7.cell (by have := DL.out; rintro (e | e) <;> omega) x6
      have t0' := GF.cell (fun h => h) z0
      have t1' := GF.cell (fun h => h) z1
      have t2' := GF.cell (fun h => h) z2
      have t3' := GF.cell (fun h => h) z3
      have x8 := GF.cell (fun h => h) x7
      have SZ8 : Hid (w7.heap.size + 1 = (w7.alloc (.cells #[.int .i64 a0, .string a1, .int .i64 a2, .slice aa a3.len ac, .int .i64 m0, .string m1, .int .i64 m2, .slice ma m3.len mc] 51)).heap.size) := hide (by rw [al_sz])
      clear h7 g7 GF hm NA NB eb hv6 hD6 hD7 hqm
      go_simp
      refine hK.out _ _ x7 (fun hHeld => ?_)
      clear hK K
      try simp only [Act.put, puts]
      refine rd1 7 (fun K hK => ?_)
      go_simp
      refine hK.out _ _ x8 (fun hHeld => ?_)
      clear hK K
      try simp only [Act.put, puts]
      first
       | (refine tku 8 ?_)
       | (refine tkl 8 ?_ ?_ ?_
          rotate_left
          (intro w hSw
           (try dsimp only at hSw)
           (go_simp <;> with_reducible rfl)))
      try simp only [Act.put, puts]
      refine rd1 9 (fun K hK => ?_)
      obtain ⟨F, hF⟩ : ∃ F, w7.heap.size = F := ⟨_, rfl⟩
      rw [hF] at N8 SZ8 ⊢
      clear hF
      generalize w7.alloc (.cells #[.int .i64 a0, .string a1, .int .i64 a2, .slice aa a3.len ac, .int .i64 m0, .string m1, .int .i64 m2, .slice ma m3.len mc] 51) = w8 at *
      have b0 := blk_cell D8.out 0
      have b1 := blk_cell D8.out 1
      have b2 := blk_cell D8.out 2
      have b3 := blk_cell D8.out 3
      have f0 := blk_free D8.out 0
      have f1 := blk_free D8.out 1
      have f2 := blk_free D8.out 2
      have f3 := blk_free D8.out 3
      have NS := hide (nv_set D8.out (.int .i64 4) (.string ⟨#[]⟩) (.int .i64 a2) (.slice (some ⟨F, 0, none⟩) 2 2))
      have FS := hide (H8.out.chg NS.out.2 (fun x hx e => by have h1 := DL.out; omega))
      have CS := hide (chg_fresh G8.out NS.out.2 (by have h1 := DL.out; omega))
      have BS := hide (NS.out.2.blkS (by have := DL.out; omega) B8.out)
      have x9 := NS.out.2.cell (by have := DL.out; omega) x8
      have N9 := hide (N8.out.chg NS.out.2 (fun x hx e => hx.2.2.2 e))
      have IN : Hid (∃ g', g' < gk ∧ PInv w ((((w8.setCell ⟨D, 0, none⟩ (.int .i64 4)).setCell ⟨D, 1, none⟩ (.string ⟨#[]⟩)).setCell ⟨D, 2, none⟩ (.int .i64 a2)).setCell ⟨D, 3, none⟩ (.slice (some ⟨F, 0, none⟩) 2 2)) rb pb v ts s o A D bx inner R g') := hide (by
       obtain ⟨ka, kc, ek, NN⟩ := N9.out
       have NN : Ts ((((w8.setCell ⟨D, 0, none⟩ (.int .i64 4)).setCell ⟨D, 1, none⟩ (.string ⟨#[]⟩)).setCell ⟨D, 2, none⟩ (.int .i64 a2)).setCell ⟨D, 3, none⟩ (.slice (some ⟨F, 0, none⟩) 2 2)) (fun x => w.heap.size ≤ x ∧ x < F + 1 ∧ x ≠ A ∧ x ≠ D) (.slice (some ⟨F, 0, none⟩) 2 2) (twoN (a0, a1, a2, a3) (m0, m1, m2, m3)) := by cases ek; exact NN
       have NN := NN.up (Y := fun x => w.heap.size ≤ x ∧ x < ((((w8.setCell ⟨D, 0, none⟩ (.int .i64 4)).setCell ⟨D, 1, none⟩ (.string ⟨#[]⟩)).setCell ⟨D, 2, none⟩ (.int .i64 a2)).setCell ⟨D, 3, none⟩ (.slice (some ⟨F, 0, none⟩) 2 2)).heap.size ∧ x ≠ A ∧ x ≠ D) (fun x hx => ⟨hx.1, by have h1 := NS.out.2.size; have h2 := SZ8.out; omega, hx.2.2⟩)
       have hfw := FW1.out
       have hk := QK.out
       have hr := QR.out
       cases r with
       | error x => exact ⟨0, by omega, .error x, (4, bNone, a2, twoN (a0, a1, a2, a3) (m0, m1, m2, m3)), _, _, FS.out, BS, NS.out.1, NN, CS.out, x9, Or.inr ⟨x, rfl, hr, rfl⟩⟩
       | ok q =>
         have e3 := HQM.out q rfl
         dsimp only at hfw
         exact ⟨ts.length + 2 - q.2, by omega, .ok q.2, (4, bNone, a2, twoN (a0, a1, a2, a3) (m0, m1, m2, m3)), _, _, FS.out, BS, NS.out.1, NN, CS.out, x9, Or.inl ⟨q.2, f, rfl, by rw [hr, e3]; rfl, by omega, rfl⟩⟩)
      clear N9 FS CS BS H8 B8 D8 G8
      go_simp
      refine hK.out _ _ x9 (fun hHeld => ?_)
      clear hK K
      try simp only [Act.put, puts]
      refine wpAnyH_done (by kernel_rfl) ?_ _
      go_wp2_with fail
      obtain ⟨g', hg', HI⟩ := IN.out
      have HI := hide HI
      clear IN
      generalize ((((w8.setCell ⟨D, 0, none⟩ (.int .i64 4)).setCell ⟨D, 1, none⟩ (.string ⟨#[]⟩)).setCell ⟨D, 2, none⟩ (.int .i64 a2)).setCell ⟨D, 3, none⟩ (.slice (some ⟨F, 0, none⟩) 2 2)) = w9 at *
      go_roundg g'
      case measure => exact hg'
      case rel => exact HI
     refine AllReadyH.cons (i := 6) (o := _) rfl (fun K hK => ?_) ?_
     rotate_left
     ·
      exact AllReadyH.nil
     go_simp
     refine A6.out.mono ?_
     rintro e w7 ⟨⟨u, m, rfl, hm, hqm⟩, h7, g7⟩
     obtain ⟨ma, mc, rfl, _⟩ := id hm
     have HQM := hide hqm
     obtain ⟨m0, m1, m2, m3⟩ := m
     dsimp only [Nd.kind, Nd.word, Nd.at, Nd.kids] at *
     have hv6 : w6.drew.heap.size = w6.heap.size := rfl
     have GF := al w7 (.cells #[.int .i64 a0, .string a1, .int .i64 a2, .slice aa a3.len ac, .int .i64 m0, .string m1, .int .i64 m2, .slice ma m3.len mc] 51)
     have BF := hide (blk_new w7 (.cells #[.int .i64 a0, .string a1, .int .i64 a2, .slice aa a3.len ac, .int .i64 m0, .string m1, .int .i64 m2, .slice ma m3.len mc] 51))
     have H8 := hide (h7.chg GF (fun _ _ h => h))
     have B8 := hide (GF.blk (g7.blkS (by have := DL.out; rintro (e | e) <;> omega) B6.out))
     have D8 := hide (GF.blk (g7.blkS (by have := DL.out; rintro (e | e) <;> omega) D6.out))
     have G8 := hide ((G6.out.trans g7).trans GF.none)
     have hD6 := olt D6.out
     have hD7 := g7.size
     have NA := ((N6.out.chg g7 (fun x hx e => by have := hx.1; have := DL.out; rcases e with e | e <;> omega)).chg GF (fun _ _ h => h)).up (Y := fun x => w.heap.size ≤ x ∧ x < w7.heap.size + 1 ∧ x ≠ A ∧ x ≠ D) (fun x hx => ⟨hx.1, by have := SZ6.out; omega, hx.2.2.1, hx.2.2.2⟩)
     have NB := (hm.chg GF (fun _ _ h => h)).up (Y := fun x => w.heap.size ≤ x ∧ x < w7.heap.size + 1 ∧ x ≠ A ∧ x ≠ D) (fun x hx => ⟨by have := DL.out; omega, by omega, by have := DL.out; omega, by omega⟩)
     obtain ⟨_, _, eb, NB⟩ := NB
     have N8 := hide (nv_two (X := fun x => w.heap.size ≤ x ∧ x < w7.heap.size + 1 ∧ x ≠ A ∧ x ≠ D) (g := w7.heap.size) (n := (a0, a1, a2, a3)) (m := (m0, m1, m2, m3)) 4 a2 ⟨by have := DL.out; omega, by omega, by have := DL.out; omega, by omega⟩ BF.out NA (by cases eb; exact NB))
     have z0 := g7.cell (by have := DL.out; rintro (e | e) <;> omega) y0
     have z1 := g7.cell (by have := DL.out; rintro (e | e) <;> omega) y1
     have z2 := g7.cell (by have := DL.out; rintro (e | e) <;> omega) y2
     have z3 := g7.cell (by have := DL.out; rintro (e | e) <;> omega) y3
     have x7 := g7.cell (by have := DL.out; rintro (e | e) <;> omega) x6
     have t0' := GF.cell (fun h => h) z0
     have t1' := GF.cell (fun h => h) z1
     have t2' := GF.cell (fun h => h) z2
     have t3' := GF.cell (fun h => h) z3
     have x8 := GF.cell (fun h => h) x7
     have SZ8 : Hid (w7.heap.size + 1 = (w7.alloc (.cells #[.int .i64 a0, .string a1, .int .i64 a2, .slice aa a3.len ac, .int .i64 m0, .string m1, .int .i64 m2, .slice ma m3.len mc] 51)).heap.size) := hide (by rw [al_sz])
     clear h7 g7 GF hm NA NB eb hv6 hD6 hD7 hqm
     go_simp
     refine hK.out _ _ x7 (fun hHeld => ?_)
     clear hK K
     try simp only [Act.put, puts]
     refine wpAnyH_ready (rs := [1, 7]) (by kernel_rfl) (by simp) ?_
     refine AllReadyH.cons (i := 1) (o := _) rfl (fun K hK => ?_) ?_
     ·
      go_simp
      refine hK.out _ _ x7 (fun hHeld => ?_)
      clear hK K
      try simp only [Act.put, puts]
      refine rd1 7 (fun K hK => ?_)
      go_simp
      refine hK.out _ _ x8 (fun hHeld => ?_)
      clear hK K
      try simp only [Act.put, puts]
      first
       | (refine tku 8 ?_)
       | (refine tkl 8 ?_ ?_ ?_
          rotate_left
          (intro w hSw
           (try dsimp only at hSw)
           (go_simp <;> with_reducible rfl)))
      try simp only [Act.put, puts]
      refine rd1 9 (fun K hK => ?_)
      obtain ⟨F, hF⟩ : ∃ F, w7.heap.size = F := ⟨_, rfl⟩
      rw [hF] at N8 SZ8 ⊢
      clear hF
      generalize w7.alloc (.cells #[.int .i64 a0, .string a1, .int .i64 a2, .slice aa a3.len ac, .int .i64 m0, .string m1, .int .i64 m2, .slice ma m3.len mc] 51) = w8 at *
      have b0 := blk_cell D8.out 0
      have b1 := blk_cell D8.out 1
      have b2 := blk_cell D8.out 2
      have b3 := blk_cell D8.out 3
      have f0 := blk_free D8.out 0
      have f1 := blk_free D8.out 1
      have f2 := blk_free D8.out 2
      have f3 := blk_free D8.out 3
      have NS := hide (nv_set D8.out (.int .i64 4) (.string ⟨#[]⟩) (.int .i64 a2) (.slice (some ⟨F, 0, none⟩) 2 2))
      have FS := hide (H8.out.chg NS.out.2 (fun x hx e => by have h1 := DL.out; omega))
      have CS := hide (chg_fresh G8.out NS.out.2 (by have h1 := DL.out; omega))
      have BS := hide (NS.out.2.blkS (by have := DL.out; omega) B8.out)
      have x9 := NS.out.2.cell (by have := DL.out; omega) x8
      have N9 := hide (N8.out.chg NS.out.2 (fun x hx e => hx.2.2.2 e))
      have IN : Hid (∃ g', g' < gk ∧ PInv w ((((w8.setCell ⟨D, 0, none⟩ (.int .i64 4)).setCell ⟨D, 1, none⟩ (.string ⟨#[]⟩)).setCell ⟨D, 2, none⟩ (.int .i64 a2)).setCell ⟨D, 3, none⟩ (.slice (some ⟨F, 0, none⟩) 2 2)) rb pb v ts s o A D bx inner R g') := hide (by
       obtain ⟨ka, kc, ek, NN⟩ := N9.out
       have NN : Ts ((((w8.setCell ⟨D, 0, none⟩ (.int .i64 4)).setCell ⟨D, 1, none⟩ (.string ⟨#[]⟩)).setCell ⟨D, 2, none⟩ (.int .i64 a2)).setCell ⟨D, 3, none⟩ (.slice (some ⟨F, 0, none⟩) 2 2)) (fun x => w.heap.size ≤ x ∧ x < F + 1 ∧ x ≠ A ∧ x ≠ D) (.slice (some ⟨F, 0, none⟩) 2 2) (twoN (a0, a1, a2, a3) (m0, m1, m2, m3)) := by cases ek; exact NN
       have NN := NN.up (Y := fun x => w.heap.size ≤ x ∧ x < ((((w8.setCell ⟨D, 0, none⟩ (.int .i64 4)).setCell ⟨D, 1, none⟩ (.string ⟨#[]⟩)).setCell ⟨D, 2, none⟩ (.int .i64 a2)).setCell ⟨D, 3, none⟩ (.slice (some ⟨F, 0, none⟩) 2 2)).heap.size ∧ x ≠ A ∧ x ≠ D) (fun x hx => ⟨hx.1, by have h1 := NS.out.2.size; have h2 := SZ8.out; omega, hx.2.2⟩)
       have hfw := FW1.out
       have hk := QK.out
       have hr := QR.out
       cases r with
       | error x => exact ⟨0, by omega, .error x, (4, bNone, a2, twoN (a0, a1, a2, a3) (m0, m1, m2, m3)), _, _, FS.out, BS, NS.out.1, NN, CS.out, x9, Or.inr ⟨x, rfl, hr, rfl⟩⟩
       | ok q =>
         have e3 := HQM.out q rfl
         dsimp only at hfw
         exact ⟨ts.length + 2 - q.2, by omega, .ok q.2, (4, bNone, a2, twoN (a0, a1, a2, a3) (m0, m1, m2, m3)), _, _, FS.out, BS, NS.out.1, NN, CS.out, x9, Or.inl ⟨q.2, f, rfl, by rw [hr, e3]; rfl, by omega, rfl⟩⟩)
      clear N9 FS CS BS H8 B8 D8 G8
      go_simp
      refine hK.out _ _ x9 (fun hHeld => ?_)
      clear hK K
      try simp only [Act.put, puts]
      refine wpAnyH_done (by kernel_rfl) ?_ _
      go_wp2_with fail
      obtain ⟨g', hg', HI⟩ := IN.out
      have HI := hide HI
      clear IN
      generalize ((((w8.setCell ⟨D, 0, none⟩ (.int .i64 4)).setCell ⟨D, 1, none⟩ (.string ⟨#[]⟩)).setCell ⟨D, 2, none⟩ (.int .i64 a2)).setCell ⟨D, 3, none⟩ (.slice (some ⟨F, 0, none⟩) 2 2)) = w9 at *
      go_roundg g'
      case measure => exact hg'
      case rel => exact HI
     refine AllReadyH.cons (i := 7) (o := _) rfl (fun K hK => ?_) ?_
     rotate_left
     ·
      exact AllReadyH.nil
     go_simp
     refine hK.out _ _ x8 (fun hHeld => ?_)
     clear hK K
     try simp only [Act.put, puts]
     refine rd1 1 (fun K hK => ?_)
     go_simp
     refine hK.out _ _ x8 (fun hHeld => ?_)
     clear hK K
     try simp only [Act.put, puts]
     first
      | (refine tku 8 ?_)
      | (refine tkl 8 ?_ ?_ ?_
         rotate_left
         (intro w hSw
          (try dsimp only at hSw)
          (go_simp <;> with_reducible rfl)))
     try simp only [Act.put, puts]
     refine rd1 9 (fun K hK => ?_)
     obtain ⟨F, hF⟩ : ∃ F, w7.heap.size = F := ⟨_, rfl⟩
     rw [hF] at N8 SZ8 ⊢
     clear hF
     generalize w7.alloc (.cells #[.int .i64 a0, .string a1, .int .i64 a2, .slice aa a3.len ac, .int .i64 m0, .string m1, .int .i64 m2, .slice ma m3.len mc] 51) = w8 at *
     have b0 := blk_cell D8.out 0
     have b1 := blk_cell D8.out 1
     have b2 := blk_cell D8.out 2
     have b3 := blk_cell D8.out 3
     have f0 := blk_free D8.out 0
     have f1 := blk_free D8.out 1
     have f2 := blk_free D8.out 2
     have f3 := blk_free D8.out 3
     have NS := hide (nv_set D8.out (.int .i64 4) (.string ⟨#[]⟩) (.int .i64 a2) (.slice (some ⟨F, 0, none⟩) 2 2))
     have FS := hide (H8.out.chg NS.out.2 (fun x hx e => by have h1 := DL.out; omega))
     have CS := hide (chg_fresh G8.out NS.out.2 (by have h1 := DL.out; omega))
     have BS := hide (NS.out.2.blkS (by have := DL.out; omega) B8.out)
     have x9 := NS.out.2.cell (by have := DL.out; omega) x8
     have N9 := hide (N8.out.chg NS.out.2 (fun x hx e => hx.2.2.2 e))
     have IN : Hid (∃ g', g' < gk ∧ PInv w ((((w8.setCell ⟨D, 0, none⟩ (.int .i64 4)).setCell ⟨D, 1, none⟩ (.string ⟨#[]⟩)).setCell ⟨D, 2, none⟩ (.int .i64 a2)).setCell ⟨D, 3, none⟩ (.slice (some ⟨F, 0, none⟩) 2 2)) rb pb v ts s o A D bx inner R g') := hide (by
      obtain ⟨ka, kc, ek, NN⟩ := N9.out
      have NN : Ts ((((w8.setCell ⟨D, 0, none⟩ (.int .i64 4)).setCell ⟨D, 1, none⟩ (.string ⟨#[]⟩)).setCell ⟨D, 2, none⟩ (.int .i64 a2)).setCell ⟨D, 3, none⟩ (.slice (some ⟨F, 0, none⟩) 2 2)) (fun x => w.heap.size ≤ x ∧ x < F + 1 ∧ x ≠ A ∧ x ≠ D) (.slice (some ⟨F, 0, none⟩) 2 2) (twoN (a0, a1, a2, a3) (m0, m1, m2, m3)) := by cases ek; exact NN
      have NN := NN.up (Y := fun x => w.heap.size ≤ x ∧ x < ((((w8.setCell ⟨D, 0, none⟩ (.int .i64 4)).setCell ⟨D, 1, none⟩ (.string ⟨#[]⟩)).setCell ⟨D, 2, none⟩ (.int .i64 a2)).setCell ⟨D, 3, none⟩ (.slice (some ⟨F, 0, none⟩) 2 2)).heap.size ∧ x ≠ A ∧ x ≠ D) (fun x hx => ⟨hx.1, by have h1 := NS.out.2.size; have h2 := SZ8.out; omega, hx.2.2⟩)
      have hfw := FW1.out
      have hk := QK.out
      have hr := QR.out
      cases r with
      | error x => exact ⟨0, by omega, .error x, (4, bNone, a2, twoN (a0, a1, a2, a3) (m0, m1, m2, m3)), _, _, FS.out, BS, NS.out.1, NN, CS.out, x9, Or.inr ⟨x, rfl, hr, rfl⟩⟩
      | ok q =>
        have e3 := HQM.out q rfl
        dsimp only at hfw
        exact ⟨ts.length + 2 - q.2, by omega, .ok q.2, (4, bNone, a2, twoN (a0, a1, a2, a3) (m0, m1, m2, m3)), _, _, FS.out, BS, NS.out.1, NN, CS.out, x9, Or.inl ⟨q.2, f, rfl, by rw [hr, e3]; rfl, by omega, rfl⟩⟩)
     clear N9 FS CS BS H8 B8 D8 G8
     go_simp
     refine hK.out _ _ x9 (fun hHeld => ?_)
     clear hK K
     try simp only [Act.put, puts]
     refine wpAnyH_done (by kernel_rfl) ?_ _
     go_wp2_with fail
     obtain ⟨g', hg', HI⟩ := IN.out
     have HI := hide HI
     clear IN
     generalize ((((w8.setCell ⟨D, 0, none⟩ (.int .i64 4)).setCell ⟨D, 1, none⟩ (.string ⟨#[]⟩)).setCell ⟨D, 2, none⟩ (.int .i64 a2)).setCell ⟨D, 3, none⟩ (.slice (some ⟨F, 0, none⟩) 2 2)) = w9 at *
     go_roundg g'
     case measure => exact hg'
     case rel => exact HI
    refine AllReadyH.cons (i := 6) (o := _) rfl (fun K hK => ?_) ?_
    rotate_left
    ·
     exact AllReadyH.nil
    go_simp
    refine A6.out.mono ?_
    rintro e w7 ⟨⟨u, m, rfl, hm, hqm⟩, h7, g7⟩
    obtain ⟨ma, mc, rfl, _⟩ := id hm
    have HQM := hide hqm
    obtain ⟨m0, m1, m2, m3⟩ := m
    dsimp only [Nd.kind, Nd.word, Nd.at, Nd.kids] at *
    have hv6 : w6.drew.heap.size = w6.heap.size := rfl
    have GF := al w7 (.cells #[.int .i64 a0, .string a1, .int .i64 a2, .slice aa a3.len ac, .int .i64 m0, .string m1, .int .i64 m2, .slice ma m3.len mc] 51)
    have BF := hide (blk_new w7 (.cells #[.int .i64 a0, .string a1, .int .i64 a2, .slice aa a3.len ac, .int .i64 m0, .string m1, .int .i64 m2, .slice ma m3.len mc] 51))
    have H8 := hide (h7.chg GF (fun _ _ h => h))
    have B8 := hide (GF.blk (g7.blkS (by have := DL.out; rintro (e | e) <;> omega) B6.out))
    have D8 := hide (GF.blk (g7.blkS (by have := DL.out; rintro (e | e) <;> omega) D6.out))
    have G8 := hide ((G6.out.trans g7).trans GF.none)
    have hD6 := olt D6.out
    have hD7 := g7.size
    have NA := ((N6.out.chg g7 (fun x hx e => by have := hx.1; have := DL.out; rcases e with e | e <;> omega)).chg GF (fun _ _ h => h)).up (Y := fun x => w.heap.size ≤ x ∧ x < w7.heap.size + 1 ∧ x ≠ A ∧ x ≠ D) (fun x hx => ⟨hx.1, by have := SZ6.out; omega, hx.2.2.1, hx.2.2.2⟩)
    have NB := (hm.chg GF (fun _ _ h => h)).up (Y := fun x => w.heap.size ≤ x ∧ x < w7.heap.size + 1 ∧ x ≠ A ∧ x ≠ D) (fun x hx => ⟨by have := DL.out; omega, by omega, by have := DL.out; omega, by omega⟩)
    obtain ⟨_, _, eb, NB⟩ := NB
    have N8 := hide (nv_two (X := fun x => w.heap.size ≤ x ∧ x < w7.heap.size + 1 ∧ x ≠ A ∧ x ≠ D) (g := w7.heap.size) (n := (a0, a1, a2, a3)) (m := (m0, m1, m2, m3)) 4 a2 ⟨by have := DL.out; omega, by omega, by have := DL.out; omega, by omega⟩ BF.out NA (by cases eb; exact NB))
    have z0 := g7.cell (by have := DL.out; rintro (e | e) <;> omega) y0
    have z1 := g7.cell (by have := DL.out; rintro (e | e) <;> omega) y1
    have z2 := g7.cell (by have := DL.out; rintro (e | e) <;> omega) y2
    have z3 := g7.cell (by have := DL.out; rintro (e | e) <;> omega) y3
    have x7 := g7.cell (by have := DL.out; rintro (e | e) <;> omega) x6
    have t0' := GF.cell (fun h => h) z0
    have t1' := GF.cell (fun h => h) z1
    have t2' := GF.cell (fun h => h) z2
    have t3' := GF.cell (fun h => h) z3
    have x8 := GF.cell (fun h => h) x7
    have SZ8 : Hid (w7.heap.size + 1 = (w7.alloc (.cells #[.int .i64 a0, .string a1, .int .i64 a2, .slice aa a3.len ac, .int .i64 m0, .string m1, .int .i64 m2, .slice ma m3.len mc] 51)).heap.size) := hide (by rw [al_sz])
    clear h7 g7 GF hm NA NB eb hv6 hD6 hD7 hqm
    go_simp
    refine hK.out _ _ x7 (fun hHeld => ?_)
    clear hK K
    try simp only [Act.put, puts]
    refine wpAnyH_ready (rs := [1, 2]) (by kernel_rfl) (by simp) ?_
    refine AllReadyH.cons (i := 1) (o := _) rfl (fun K hK => ?_) ?_
    ·
     go_simp
     refine hK.out _ _ x7 (fun hHeld => ?_)
     clear hK K
     try simp only [Act.put, puts]
     refine rd1 2 (fun K hK => ?_)
     go_simp
     refine hK.out _ _ x7 (fun hHeld => ?_)
     clear hK K
     try simp only [Act.put, puts]
     refine rd1 7 (fun K hK => ?_)
     go_simp
     refine hK.out _ _ x8 (fun hHeld => ?_)
     clear hK K
     try simp only [Act.put, puts]
     first
      | (refine tku 8 ?_)
      | (refine tkl 8 ?_ ?_ ?_
         rotate_left
         (intro w hSw
          (try dsimp only at hSw)
          (go_simp <;> with_reducible rfl)))
     try simp only [Act.put, puts]
     refine rd1 9 (fun K hK => ?_)
     obtain ⟨F, hF⟩ : ∃ F, w7.heap.size = F := ⟨_, rfl⟩
     rw [hF] at N8 SZ8 ⊢
     clear hF
     generalize w7.alloc (.cells #[.int .i64 a0, .string a1, .int .i64 a2, .slice aa a3.len ac, .int .i64 m0, .string m1, .int .i64 m2, .slice ma m3.len mc] 51) = w8 at *
     have b0 := blk_cell D8.out 0
     have b1 := blk_cell D8.out 1
     have b2 := blk_cell D8.out 2
     have b3 := blk_cell D8.out 3
     have f0 := blk_free D8.out 0
     have f1 := blk_free D8.out 1
     have f2 := blk_free D8.out 2
     have f3 := blk_free D8.out 3
     have NS := hide (nv_set D8.out (.int .i64 4) (.string ⟨#[]⟩) (.int .i64 a2) (.slice (some ⟨F, 0, none⟩) 2 2))
     have FS := hide (H8.out.chg NS.out.2 (fun x hx e => by have h1 := DL.out; omega))
     have CS := hide (chg_fresh G8.out NS.out.2 (by have h1 := DL.out; omega))
     have BS := hide (NS.out.2.blkS (by have := DL.out; omega) B8.out)
     have x9 := NS.out.2.cell (by have := DL.out; omega) x8
     have N9 := hide (N8.out.chg NS.out.2 (fun x hx e => hx.2.2.2 e))
     have IN : Hid (∃ g', g' < gk ∧ PInv w ((((w8.setCell ⟨D, 0, none⟩ (.int .i64 4)).setCell ⟨D, 1, none⟩ (.string ⟨#[]⟩)).setCell ⟨D, 2, none⟩ (.int .i64 a2)).setCell ⟨D, 3, none⟩ (.slice (some ⟨F, 0, none⟩) 2 2)) rb pb v ts s o A D bx inner R g') := hide (by
      obtain ⟨ka, kc, ek, NN⟩ := N9.out
      have NN : Ts ((((w8.setCell ⟨D, 0, none⟩ (.int .i64 4)).setCell ⟨D, 1, none⟩ (.string ⟨#[]⟩)).setCell ⟨D, 2, none⟩ (.int .i64 a2)).setCell ⟨D, 3, none⟩ (.slice (some ⟨F, 0, none⟩) 2 2)) (fun x => w.heap.size ≤ x ∧ x < F + 1 ∧ x ≠ A ∧ x ≠ D) (.slice (some ⟨F, 0, none⟩) 2 2) (twoN (a0, a1, a2, a3) (m0, m1, m2, m3)) := by cases ek; exact NN
      have NN := NN.up (Y := fun x => w.heap.size ≤ x ∧ x < ((((w8.setCell ⟨D, 0, none⟩ (.int .i64 4)).setCell ⟨D, 1, none⟩ (.string ⟨#[]⟩)).setCell ⟨D, 2, none⟩ (.int .i64 a2)).setCell ⟨D, 3, none⟩ (.slice (some ⟨F, 0, none⟩) 2 2)).heap.size ∧ x ≠ A ∧ x ≠ D) (fun x hx => ⟨hx.1, by have h1 := NS.out.2.size; have h2 := SZ8.out; omega, hx.2.2⟩)
      have hfw := FW1.out
      have hk := QK.out
      have hr := QR.out
      cases r with
      | error x => exact ⟨0, by omega, .error x, (4, bNone, a2, twoN (a0, a1, a2, a3) (m0, m1, m2, m3)), _, _, FS.out, BS, NS.out.1, NN, CS.out, x9, Or.inr ⟨x, rfl, hr, rfl⟩⟩
      | ok q =>
        have e3 := HQM.out q rfl
        dsimp only at hfw
        exact ⟨ts.length + 2 - q.2, by omega, .ok q.2, (4, bNone, a2, twoN (a0, a1, a2, a3) (m0, m1, m2, m3)), _, _, FS.out, BS, NS.out.1, NN, CS.out, x9, Or.inl ⟨q.2, f, rfl, by rw [hr, e3]; rfl, by omega, rfl⟩⟩)
     clear N9 FS CS BS H8 B8 D8 G8
     go_simp
     refine hK.out _ _ x9 (fun hHeld => ?_)
     clear hK K
     try simp only [Act.put, puts]
     refine wpAnyH_done (by kernel_rfl) ?_ _
     go_wp2_with fail
     obtain ⟨g', hg', HI⟩ := IN.out
     have HI := hide HI
     clear IN
     generalize ((((w8.setCell ⟨D, 0, none⟩ (.int .i64 4)).setCell ⟨D, 1, none⟩ (.string ⟨#[]⟩)).setCell ⟨D, 2, none⟩ (.int .i64 a2)).setCell ⟨D, 3, none⟩ (.slice (some ⟨F, 0, none⟩) 2 2)) = w9 at *
     go_roundg g'
     case measure => exact hg'
     case rel => exact HI
    refine AllReadyH.cons (i := 2) (o := _) rfl (fun K hK => ?_) ?_
    rotate_left
    ·
     exact AllReadyH.nil
    go_simp
    refine hK.out _ _ x7 (fun hHeld => ?_)
    clear hK K
    try simp only [Act.put, puts]
    refine wpAnyH_ready (rs := [1, 7]) (by kernel_rfl) (by simp) ?_
    refine AllReadyH.cons (i := 1) (o := _) rfl (fun K hK => ?_) ?_
    ·
     go_simp
     refine hK.out _ _ x7 (fun hHeld => ?_)
     clear hK K
     try simp only [Act.put, puts]
     refine rd1 7 (fun K hK => ?_)
     go_simp
     refine hK.out _ _ x8 (fun hHeld => ?_)
     clear hK K
     try simp only [Act.put, puts]
     first
      | (refine tku 8 ?_)
      | (refine tkl 8 ?_ ?_ ?_
         rotate_left
         (intro w hSw
          (try dsimp only at hSw)
          (go_simp <;> with_reducible rfl)))
     try simp only [Act.put, puts]
     refine rd1 9 (fun K hK => ?_)
     obtain ⟨F, hF⟩ : ∃ F, w7.heap.size = F := ⟨_, rfl⟩
     rw [hF] at N8 SZ8 ⊢
     clear hF
     generalize w7.alloc (.cells #[.int .i64 a0, .string a1, .int .i64 a2, .slice aa a3.len ac, .int .i64 m0, .string m1, .int .i64 m2, .slice ma m3.len mc] 51) = w8 at *
     have b0 := blk_cell D8.out 0
     have b1 := blk_cell D8.out 1
     have b2 := blk_cell D8.out 2
     have b3 := blk_cell D8.out 3
     have f0 := blk_free D8.out 0
     have f1 := blk_free D8.out 1
     have f2 := blk_free D8.out 2
     have f3 := blk_free D8.out 3
     have NS := hide (nv_set D8.out (.int .i64 4) (.string ⟨#[]⟩) (.int .i64 a2) (.slice (some ⟨F, 0, none⟩) 2 2))
     have FS := hide (H8.out.chg NS.out.2 (fun x hx e => by have h1 := DL.out; omega))
     have CS := hide (chg_fresh G8.out NS.out.2 (by have h1 := DL.out; omega))
     have BS := hide (NS.out.2.blkS (by have := DL.out; omega) B8.out)
     have x9 := NS.out.2.cell (by have := DL.out; omega) x8
     have N9 := hide (N8.out.chg NS.out.2 (fun x hx e => hx.2.2.2 e))
     have IN : Hid (∃ g', g' < gk ∧ PInv w ((((w8.setCell ⟨D, 0, none⟩ (.int .i64 4)).setCell ⟨D, 1, none⟩ (.string ⟨#[]⟩)).setCell ⟨D, 2, none⟩ (.int .i64 a2)).setCell ⟨D, 3, none⟩ (.slice (some ⟨F, 0, none⟩) 2 2)) rb pb v ts s o A D bx inner R g') := hide (by
      obtain ⟨ka, kc, ek, NN⟩ := N9.out
      have NN : Ts ((((w8.setCell ⟨D, 0, none⟩ (.int .i64 4)).setCell ⟨D, 1, none⟩ (.string ⟨#[]⟩)).setCell ⟨D, 2, none⟩ (.int .i64 a2)).setCell ⟨D, 3, none⟩ (.slice (some ⟨F, 0, none⟩) 2 2)) (fun x => w.heap.size ≤ x ∧ x < F + 1 ∧ x ≠ A ∧ x ≠ D) (.slice (some ⟨F, 0, none⟩) 2 2) (twoN (a0, a1, a2, a3) (m0, m1, m2, m3)) := by cases ek; exact NN
      have NN := NN.up (Y := fun x => w.heap.size ≤ x ∧ x < ((((w8.setCell ⟨D, 0, none⟩ (.int .i64 4)).setCell ⟨D, 1, none⟩ (.string ⟨#[]⟩)).setCell ⟨D, 2, none⟩ (.int .i64 a2)).setCell ⟨D, 3, none⟩ (.slice (some ⟨F, 0, none⟩) 2 2)).heap.size ∧ x ≠ A ∧ x ≠ D) (fun x hx => ⟨hx.1, by have h1 := NS.out.2.size; have h2 := SZ8.out; omega, hx.2.2⟩)
      have hfw := FW1.out
      have hk := QK.out
      have hr := QR.out
      cases r with
      | error x => exact ⟨0, by omega, .error x, (4, bNone, a2, twoN (a0, a1, a2, a3) (m0, m1, m2, m3)), _, _, FS.out, BS, NS.out.1, NN, CS.out, x9, Or.inr ⟨x, rfl, hr, rfl⟩⟩
      | ok q =>
        have e3 := HQM.out q rfl
        dsimp only at hfw
        exact ⟨ts.length + 2 - q.2, by omega, .ok q.2, (4, bNone, a2, twoN (a0, a1, a2, a3) (m0, m1, m2, m3)), _, _, FS.out, BS, NS.out.1, NN, CS.out, x9, Or.inl ⟨q.2, f, rfl, by rw [hr, e3]; rfl, by omega, rfl⟩⟩)
     clear N9 FS CS BS H8 B8 D8 G8
     go_simp
     refine hK.out _ _ x9 (fun hHeld => ?_)
     clear hK K
     try simp only [Act.put, puts]
     refine wpAnyH_done (by kernel_rfl) ?_ _
     go_wp2_with fail
     obtain ⟨g', hg', HI⟩ := IN.out
     have HI := hide HI
     clear IN
     generalize ((((w8.setCell ⟨D, 0, none⟩ (.int .i64 4)).setCell ⟨D, 1, none⟩ (.string ⟨#[]⟩)).setCell ⟨D, 2, none⟩ (.int .i64 a2)).setCell ⟨D, 3, none⟩ (.slice (some ⟨F, 0, none⟩) 2 2)) = w9 at *
     go_roundg g'
     case measure => exact hg'
     case rel => exact HI
    refine AllReadyH.cons (i := 7) (o := _) rfl (fun K hK => ?_) ?_
    rotate_left
    ·
     exact AllReadyH.nil
    go_simp
    refine hK.out _ _ x8 (fun hHeld => ?_)
    clear hK K
    try simp only [Act.put, puts]
    refine rd1 1 (fun K hK => ?_)
    go_simp
    refine hK.out _ _ x8 (fun hHeld => ?_)
    clear hK K
    try simp only [Act.put, puts]
    first
     | (refine tku 8 ?_)
     | (refine tkl 8 ?_ ?_ ?_
        rotate_left
        (intro w hSw
         (try dsimp only at hSw)
         (go_simp <;> with_reducible rfl)))
    try simp only [Act.put, puts]
    refine rd1 9 (fun K hK => ?_)
    obtain ⟨F, hF⟩ : ∃ F, w7.heap.size = F := ⟨_, rfl⟩
    rw [hF] at N8 SZ8 ⊢
    clear hF
    generalize w7.alloc (.cells #[.int .i64 a0, .string a1, .int .i64 a2, .slice aa a3.len ac, .int .i64 m0, .string m1, .int .i64 m2, .slice ma m3.len mc] 51) = w8 at *
    have b0 := blk_cell D8.out 0
    have b1 := blk_cell D8.out 1
    have b2 := blk_cell D8.out 2
    have b3 := blk_cell D8.out 3
    have f0 := blk_free D8.out 0
    have f1 := blk_free D8.out 1
    have f2 := blk_free D8.out 2
    have f3 := blk_free D8.out 3
    have NS := hide (nv_set D8.out (.int .i64 4) (.string ⟨#[]⟩) (.int .i64 a2) (.slice (some ⟨F, 0, none⟩) 2 2))
    have FS := hide (H8.out.chg NS.out.2 (fun x hx e => by have h1 := DL.out; omega))
    have CS := hide (chg_fresh G8.out NS.out.2 (by have h1 := DL.out; omega))
    have BS := hide (NS.out.2.blkS (by have := DL.out; omega) B8.out)
    have x9 := NS.out.2.cell (by have := DL.out; omega) x8
    have N9 := hide (N8.out.chg NS.out.2 (fun x hx e => hx.2.2.2 e))
    have IN : Hid (∃ g', g' < gk ∧ PInv w ((((w8.setCell ⟨D, 0, none⟩ (.int .i64 4)).setCell ⟨D, 1, none⟩ (.string ⟨#[]⟩)).setCell ⟨D, 2, none⟩ (.int .i64 a2)).setCell ⟨D, 3, none⟩ (.slice (some ⟨F, 0, none⟩) 2 2)) rb pb v ts s o A D bx inner R g') := hide (by
     obtain ⟨ka, kc, ek, NN⟩ := N9.out
     have NN : Ts ((((w8.setCell ⟨D, 0, none⟩ (.int .i64 4)).setCell ⟨D, 1, none⟩ (.string ⟨#[]⟩)).setCell ⟨D, 2, none⟩ (.int .i64 a2)).setCell ⟨D, 3, none⟩ (.slice (some ⟨F, 0, none⟩) 2 2)) (fun x => w.heap.size ≤ x ∧ x < F + 1 ∧ x ≠ A ∧ x ≠ D) (.slice (some ⟨F, 0, none⟩) 2 2) (twoN (a0, a1, a2, a3) (m0, m1, m2, m3)) := by cases ek; exact NN
     have NN := NN.up (Y := fun x => w.heap.size ≤ x ∧ x < ((((w8.setCell ⟨D, 0, none⟩ (.int .i64 4)).setCell ⟨D, 1, none⟩ (.string ⟨#[]⟩)).setCell ⟨D, 2, none⟩ (.int .i64 a2)).setCell ⟨D, 3, none⟩ (.slice (some ⟨F, 0, none⟩) 2 2)).heap.size ∧ x ≠ A ∧ x ≠ D) (fun x hx => ⟨hx.1, by have h1 := NS.out.2.size; have h2 := SZ8.out; omega, hx.2.2⟩)
     have hfw := FW1.out
     have hk := QK.out
     have hr := QR.out
     cases r with
     | error x => exact ⟨0, by omega, .error x, (4, bNone, a2, twoN (a0, a1, a2, a3) (m0, m1, m2, m3)), _, _, FS.out, BS, NS.out.1, NN, CS.out, x9, Or.inr ⟨x, rfl, hr, rfl⟩⟩
     | ok q =>
       have e3 := HQM.out q rfl
       dsimp only at hfw
       exact ⟨ts.length + 2 - q.2, by omega, .ok q.2, (4, bNone, a2, twoN (a0, a1, a2, a3) (m0, m1, m2, m3)), _, _, FS.out, BS, NS.out.1, NN, CS.out, x9, Or.inl ⟨q.2, f, rfl, by rw [hr, e3]; rfl, by omega, rfl⟩⟩)
    clear N9 FS CS BS H8 B8 D8 G8
    go_simp
    refine hK.out _ _ x9 (fun hHeld => ?_)
    clear hK K
    try simp only [Act.put, puts]
    refine wpAnyH_done (by kernel_rfl) ?_ _
    go_wp2_with fail
    obtain ⟨g', hg', HI⟩ := IN.out
    have HI := hide HI
    clear IN
    generalize ((((w8.setCell ⟨D, 0, none⟩ (.int .i64 4)).setCell ⟨D, 1, none⟩ (.string ⟨#[]⟩)).setCell ⟨D, 2, none⟩ (.int .i64 a2)).setCell ⟨D, 3, none⟩ (.slice (some ⟨F, 0, none⟩) 2 2)) = w9 at *
    go_roundg g'
    case measure => exact hg'
    case rel => exact HI
 ·
  have nb : nextB ts s (.ok k) bLam = true := hb
  have ns : nextSt ts s (.ok k) bLam = .ok (k + 1) := by simp [nextSt, hb]
  rw [nb, ns] at NX
  have TB : Hid (termB ts s typ inner k = lamS ts s typ inner (t2 : Int) (k + 1)) := hide (by unfold termB; rw [if_pos hb, HT.out])
  have LM2 := hide (fun w h => LM.out (t2 : Int) (.ok (k + 1)) w h)
  have LM2 : Hid (∀ w, PS w rb pb v ts s o (.ok (k + 1)) → Calls Try.prog 78 #[.pointer (some ⟨pb, 0, none⟩), .int .i64 (t2 : Int)] w (POut w rb pb v ts s o (termB ts s typ inner k))) := hide (fun w h => by rw [TB.out]; exact LM2.out w h)
  clear nb ns hb LM TB AT HFW
  generalize termB ts s typ inner k = R at *
  refine NX.out.mono ?_
  rintro e w3 ⟨rfl, h3, g3⟩
  have H3 := hide h3
  have B3 := hide (g3.blkS (by have := HL.out; omega) B2.out)
  have G3 := hide (G2.out.none.trans (g3.mono (T := Pw rb pb) (fun x _ h => Or.inr h)))
  have x3 := g3.cell (by have := HL.out; omega) x2
  clear h3 g3 NX x2
  go_wp2_with fail
  refine (LM2.out w3 H3.out).mono ?_
  rintro e w4 ⟨⟨u, a, rfl, ha, hq⟩, h4, g4⟩
  obtain ⟨aa, ac, rfl, _⟩ := id ha
  have HQ := hide hq
  obtain ⟨a0, a1, a2, a3⟩ := a
  dsimp only [Nd.kind, Nd.word, Nd.at, Nd.kids] at *
  have H4 := hide h4
  have B4 := hide (g4.blkS (by have := HL.out; rintro (e | e) <;> omega) B3.out)
  have G4 := hide (G3.out.trans g4)
  have hA3 := olt B3.out
  have N4 := hide (ha.up (Y := fun x => w.heap.size ≤ x ∧ x < w4.heap.size ∧ x ≠ A) (fun x hx => ⟨by have := HL.out; omega, hx.2, by omega⟩))
  clear h4 g4 ha hq hA3 LM2
  have b0 := blk_cell B4.out 0
  have b1 := blk_cell B4.out 1
  have b2 := blk_cell B4.out 2
  have b3 := blk_cell B4.out 3
  have f0 := blk_free B4.out 0
  have f1 := blk_free B4.out 1
  have f2 := blk_free B4.out 2
  have f3 := blk_free B4.out 3
  have NS := hide (nv_set B4.out (.int .i64 a0) (.string a1) (.int .i64 a2) (.slice aa a3.len ac))
  have FS := hide (H4.out.chg NS.out.2 (fun x hx e => by have h1 := HL.out; omega))
  have CS := hide (chg_fresh G4.out NS.out.2 (by have h1 := HL.out; omega))
  go_wp2_with fail
  generalize ((((w4.setCell ⟨A, 0, none⟩ (.int .i64 a0)).setCell ⟨A, 1, none⟩ (.string a1)).setCell ⟨A, 2, none⟩ (.int .i64 a2)).setCell ⟨A, 3, none⟩ (.slice aa a3.len ac)) = wF at *
  have r0 := blk_cell NS.out.1 0
  have r1 := blk_cell NS.out.1 1
  have r2 := blk_cell NS.out.1 2
  have r3 := blk_cell NS.out.1 3
  refine bodyPost_ret (v := .agg #[.int .i64 a0, .string a1, .int .i64 a2, .slice aa a3.len ac]) (by simp [results, Try.results76, go_sem, r0, r1, r2, r3]) rfl ?_
  have N7 := N4.out.chg NS.out.2 (fun x hx e => hx.2.2 e)
  exact ⟨⟨_, _, rfl, N7.up (fun x hx => ⟨hx.1, by have h1 := NS.out.2.size; omega⟩), HQ.out⟩, FS.out, CS.out⟩

theorem term_any {rb pb : Nat} {v : Value} {ts : List Tok} {s : ByteArray} : ∀ (n o : Nat), o + n = 60 → ∀ (st : St) (w : World), PS w rb pb v ts s o st →
  Calls Try.prog 40 #[.pointer (some ⟨pb, 0, none⟩)] w (POut w rb pb v ts s o (st.bind (termS ts s n)))
 | 0, o, ho, st, w, h => term_step (termS ts s 0) (fun w bx st h hb hp => opened_term (by omega) (termS ts s 0) (fun _ k => rfl) (fun hlt => absurd hlt (by omega)) h hb hp) h
 | n + 1, o, ho, st, w, h => term_step (termS ts s (n + 1)) (fun w bx st h hb hp => opened_term (by omega) (termS ts s (n + 1)) (fun e => absurd e (by omega))
    (fun hlt w k h hb => term1_any (typS ts s n) (termS ts s n) (termS_fwd ts s n) (fun st w h => typ_any n (o + 1) (by omega) st w h) (fun st w h => term_any n (o + 1) (by omega) st w h) h hb hp) h hb hp) h
end Go.Proofs.Ytboeeaekhijboaa
