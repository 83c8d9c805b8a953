/- The program's parser: typ. -/
import Derived.Test.YtboeeaekhijboaaShort
import Derived.Test.YtboeeaekhijboaaPatom
namespace Go.Proofs.Ytboeeaekhijboaa
open Go.RowKit
set_option linter.unusedVariables false
set_option linter.unusedSimpArgs false

/-- a type, behind what it opens -/
def typB (ts : List Tok) (s : ByteArray) (inner : Nat → Rz Nd) (k : Nat) : Rz Nd := (atomS ts s inner k).bind fun a k1 =>
 if eatB ts s bArrow k1 = true then (inner (k1 + 1)).bind fun b k2 => .ok ((2, bNone, a.at, twoN a b), k2) else .ok (a, k1)
theorem typB_err {ts : List Tok} {s : ByteArray} {inner : Nat → Rz Nd} {k : Nat} {x : Pf} (h : atomS ts s inner k = .error x) : typB ts s inner k = .error x := by
 unfold typB; rw [h]; rfl
theorem typB_no {ts : List Tok} {s : ByteArray} {inner : Nat → Rz Nd} {k : Nat} {q : Nd × Nat} (h : atomS ts s inner k = .ok q) (hb : eatB ts s bArrow q.2 = false) : typB ts s inner k = .ok q := by
 unfold typB; rw [h]; simp only [Rz.bind]; rw [if_neg (by rw [hb]; decide)]
theorem typB_yes {ts : List Tok} {s : ByteArray} {inner : Nat → Rz Nd} {k : Nat} {q : Nd × Nat} (h : atomS ts s inner k = .ok q) (hb : eatB ts s bArrow q.2 = true) (b : Nd) (hq : ∀ p, inner (q.2 + 1) = .ok p → b = p.1) :
  (inner (q.2 + 1)).st = (typB ts s inner k).st ∧ ∀ p, typB ts s inner k = .ok p → ((2, bNone, q.1.at, twoN q.1 b) : Nd) = p.1 := by
 unfold typB; rw [h]; simp only [Rz.bind]; rw [if_pos hb]
 cases e : inner (q.2 + 1) with
 | error x => exact ⟨rfl, fun p hp => by cases hp⟩
 | ok p => exact ⟨rfl, fun p' hp => by cases hp; rw [hq p e]⟩
/-- two nodes, side by side in a new block, as one's kids -/
theorem nv_two {w : World} {X : Nat → Prop} {g T : Nat} {n m : Nd} {a b : Value} (k : Int) (at' : Int) (hg : X g) (h : w.heap[g]? = some (.cells #[.int .i64 n.kind, .string n.word, .int .i64 n.at, a, .int .i64 m.kind, .string m.word, .int .i64 m.at, b] T)) (ha : Ts w X a n.kids) (hb : Ts w X b m.kids) :
  NV w X (.agg #[.int .i64 k, .string bNone, .int .i64 at', .slice (some ⟨g, 0, none⟩) 2 2]) (k, bNone, at', twoN n m) := ⟨_, 2, rfl, ts_two hg h ha hb⟩

set_option maxRecDepth 100000 in
set_option maxHeartbeats 8000000 in
theorem typ1_any {rb pb bx : Nat} {v : Value} {ts : List Tok} {s : ByteArray} {o : Nat} (inner : Nat → Rz Nd) (hin : ∀ w k, PS w rb pb v ts s o (.ok k) → Calls Try.prog 43 #[.pointer (some ⟨pb, 0, none⟩)] w (POut w rb pb v ts s o (inner k)))
  {k : Nat} {w : World} (h : PS w rb pb v ts s o (.ok k)) (hbx : w.cell? ⟨bx, 0, none⟩ = some (.pointer (some ⟨pb, 0, none⟩))) (hbp : pb < bx) :
  Calls Try.prog 82 #[.pointer (some ⟨bx, 0, none⟩)] w (POut w rb pb v ts s o (typB ts s inner k)) := by
 have G0 := hide (al w (.cells #[.int .i64 0, .string ⟨#[]⟩, .int .i64 0, .slice none 0 0] 51))
 have B0 := hide (blk_new w (.cells #[.int .i64 0, .string ⟨#[]⟩, .int .i64 0, .slice none 0 0] 51))
 have H0 := hide (h.chg G0.out (fun _ _ h => h))
 have hl := h.lt
 have hxl := World.block_lt_of_cell? w _ hbx
 dsimp only at hxl
 have HIN := hide hin
 obtain ⟨A, hA⟩ : ∃ A, w.heap.size = A := ⟨_, rfl⟩
 have HL : Hid (rb < pb ∧ pb < bx ∧ bx < A ∧ w.heap.size = A) := hide ⟨hl.1, hbp, by omega, hA⟩
 have x0 := G0.out.cell (fun h => h) hbx
 have AT := hide (atom_typ inner hin H0.out)
 obtain ⟨r1, hr1⟩ : ∃ r1, atomS ts s inner k = r1 := ⟨_, rfl⟩
 have HR1 := hide hr1
 rw [hr1] at AT
 rw [hA] at B0
 clear h hl hxl hin hA hbx hbp hr1
 go_enter Try.func82, Try.ntmps82
 go_wp2_with fail
 rw [HL.out.2.2.2]
 generalize w.alloc (.cells #[.int .i64 0, .string ⟨#[]⟩, .int .i64 0, .slice none 0 0] 51) = w1 at *
 refine AT.out.mono ?_
 rintro e w2 ⟨⟨u, n, rfl, hn, hq⟩, h2, g2⟩
 obtain ⟨na, nc, rfl, _⟩ := id hn
 have HQ := hide hq
 obtain ⟨n0, n1, n2, n3⟩ := n
 dsimp only [Nd.kind, Nd.word, Nd.at, Nd.kids] at *
 have GT := al w2 (.cells #[.int .i64 n0, .string n1, .int .i64 n2, .slice na n3.len nc] 51)
 have BT := hide (blk_new w2 (.cells #[.int .i64 n0, .string n1, .int .i64 n2, .slice na n3.len nc] 51))
 have H3 := hide (h2.chg GT (fun _ _ h => h))
 have hlt2 := h2.lt
 have HS2 : Hid (A < w2.heap.size ∧ w1.heap.size ≤ w2.heap.size ∧ w.heap.size ≤ w1.heap.size) := hide ⟨by have h1 := olt B0.out; have h3 := g2.size; omega, g2.size, G0.out.size⟩
 have N3 := hide ((hn.chg GT (fun _ _ h => h)).up (Y := fun x => w.heap.size ≤ x ∧ x < w2.heap.size ∧ x ≠ A) (fun x hx => ⟨by have := HS2.out; omega, hx.2, by have h1 := olt B0.out; omega⟩))
 have B3 := hide (GT.blk (g2.blkS (by have := HL.out; omega) B0.out))
 have G3 := hide ((G0.out.none.trans g2).trans GT.none)
 have x3 := GT.cell (fun h => h) (g2.cell (by have := HL.out; omega) x0)
 obtain ⟨D, hD⟩ : ∃ D, w2.heap.size = D := ⟨_, rfl⟩
 have Z3 := hide (olt BT.out)
 have HD : Hid (w2.heap.size = D) := hide hD
 rw [hD] at N3 BT Z3
 have DL : Hid (pb < D ∧ A < D ∧ rb < D ∧ bx < D) := hide (by have h1 := HS2.out; have h2 := HL.out; omega)
 clear h2 g2 GT hn hq x0 AT hlt2
 go_wp2_with fail
 clear hD
 generalize w2.alloc (.cells #[.int .i64 n0, .string n1, .int .i64 n2, .slice na n3.len nc] 51) = w3 at *
 have q0 := blk_cell BT.out 0
 have q1 := blk_cell BT.out 1
 have q2 := blk_cell BT.out 2
 have q3 := blk_cell BT.out 3
 simp only [gets] at q0 q1 q2 q3
 have NX := hide (next_any bArrow H3.out)
 cases r1 with
 | error x =>
   have LAW := hide (typB_err HR1.out)
   have nb : nextB ts s (Rz.st (.error x : Rz Nd)) bArrow = false := rfl
   have ns : nextSt ts s (Rz.st (.error x : Rz Nd)) bArrow = .error x := rfl
   rw [nb, ns] at NX
   clear nb ns HR1 HQ
   refine NX.out.mono ?_
   rintro e w4 ⟨rfl, h4, g4⟩
   have H4 : Hid (PS w4 rb pb v ts s o (typB ts s inner k).st) := hide (by rw [LAW.out]; exact h4)
   have B4 := hide (g4.blkS (by have := HL.out; omega) B3.out)
   have G4 := hide (G3.out.trans (g4.mono (T := Pw rb pb) (fun x _ h => Or.inr h)))
   have N4 := hide (N3.out.chg g4 (fun x hx e => by have h1 := hx.1; have h2 := HL.out; omega))
   have Z4 : Hid (D < w4.heap.size) := hide (by have h1 := g4.size; have h2 := Z3.out; omega)
   have HQ4 : Hid (∀ q : Nd × Nat, typB ts s inner k = .ok q → ((n0, n1, n2, n3) : Nd) = q.1) := hide (fun q hq => by rw [LAW.out] at hq; cases hq)
   have p0 := g4.cell (by have := DL.out; omega) q0
   have p1 := g4.cell (by have := DL.out; omega) q1
   have p2 := g4.cell (by have := DL.out; omega) q2
   have p3 := g4.cell (by have := DL.out; omega) q3
   clear h4 g4 NX LAW q0 q1 q2 q3
   have b0 := blk_cell B4.out 0
   have b1 := blk_cell B4.out 1
   have b2 := blk_cell B4.out 2
   have b3 := blk_cell B4.out 3
   have f0 := blk_free B4.out 0
   have f1 := blk_free B4.out 1
   have f2 := blk_free B4.out 2
   have f3 := blk_free B4.out 3
   have NS := hide (nv_set B4.out (.int .i64 n0) (.string n1) (.int .i64 n2) (.slice na n3.len nc))
   have FS := hide (H4.out.chg NS.out.2 (fun x hx e => by have h1 := HL.out; omega))
   have CS := hide (chg_fresh G4.out NS.out.2 (by have h1 := HL.out; omega))
   go_wp2_with fail
   generalize ((((w4.setCell ⟨A, 0, none⟩ (.int .i64 n0)).setCell ⟨A, 1, none⟩ (.string n1)).setCell ⟨A, 2, none⟩ (.int .i64 n2)).setCell ⟨A, 3, none⟩ (.slice na n3.len nc)) = wF at *
   have r0 := blk_cell NS.out.1 0
   have r1 := blk_cell NS.out.1 1
   have r2 := blk_cell NS.out.1 2
   have r3 := blk_cell NS.out.1 3
   refine bodyPost_ret (v := .agg #[.int .i64 n0, .string n1, .int .i64 n2, .slice na n3.len nc]) (by simp [results, Try.results82, go_sem, r0, r1, r2, r3]) rfl ?_
   have N7 := N4.out.chg NS.out.2 (fun x hx e => hx.2.2 e)
   exact ⟨⟨_, _, rfl, N7.up (fun x hx => ⟨hx.1, by have h1 := NS.out.2.size; have h2 := Z4.out; have h3 := HD.out; omega⟩), HQ4.out⟩, FS.out, CS.out⟩
 | ok q =>
   obtain ⟨⟨m0, m1, m2, m3⟩, k1⟩ := q
   have e1 := HQ.out _ rfl
   cases e1
   clear HQ
   cases hb : eatB ts s bArrow k1
   ·
    have LAW := hide (typB_no HR1.out hb)
    have nb : nextB ts s (Rz.st (.ok ((n0, n1, n2, n3), k1) : Rz Nd)) bArrow = false := hb
    have ns : nextSt ts s (Rz.st (.ok ((n0, n1, n2, n3), k1) : Rz Nd)) bArrow = .ok k1 := by simp [nextSt, Rz.st, hb]
    rw [nb, ns] at NX
    clear nb ns HR1 hb
    refine NX.out.mono ?_
    rintro e w4 ⟨rfl, h4, g4⟩
    have H4 : Hid (PS w4 rb pb v ts s o (typB ts s inner k).st) := hide (by rw [LAW.out]; exact h4)
    have B4 := hide (g4.blkS (by have := HL.out; omega) B3.out)
    have G4 := hide (G3.out.trans (g4.mono (T := Pw rb pb) (fun x _ h => Or.inr h)))
    have N4 := hide (N3.out.chg g4 (fun x hx e => by have h1 := hx.1; have h2 := HL.out; omega))
    have Z4 : Hid (D < w4.heap.size) := hide (by have h1 := g4.size; have h2 := Z3.out; omega)
    have HQ4 : Hid (∀ q : Nd × Nat, typB ts s inner k = .ok q → ((n0, n1, n2, n3) : Nd) = q.1) := hide (fun q hq => by rw [LAW.out] at hq; cases hq; rfl)
    have p0 := g4.cell (by have := DL.out; omega) q0
    have p1 := g4.cell (by have := DL.out; omega) q1
    have p2 := g4.cell (by have := DL.out; omega) q2
    have p3 := g4.cell (by have := DL.out; omega) q3
    clear h4 g4 NX LAW q0 q1 q2 q3
    have b0 := blk_cell B4.out 0
    have b1 := blk_cell B4.out 1
    have b2 := blk_cell B4.out 2
    have b3 := blk_cell B4.out 3
    have f0 := blk_free B4.out 0
    have f1 := blk_free B4.out 1
    have f2 := blk_free B4.out 2
    have f3 := blk_free B4.out 3
    have NS := hide (nv_set B4.out (.int .i64 n0) (.string n1) (.int .i64 n2) (.slice na n3.len nc))
    have FS := hide (H4.out.chg NS.out.2 (fun x hx e => by have h1 := HL.out; omega))
    have CS := hide (chg_fresh G4.out NS.out.2 (by have h1 := HL.out; omega))
    go_wp2_with fail
    generalize ((((w4.setCell ⟨A, 0, none⟩ (.int .i64 n0)).setCell ⟨A, 1, none⟩ (.string n1)).setCell ⟨A, 2, none⟩ (.int .i64 n2)).setCell ⟨A, 3, none⟩ (.slice na n3.len nc)) = wF at *
    have r0 := blk_cell NS.out.1 0
    have r1 := blk_cell NS.out.1 1
    have r2 := blk_cell NS.out.1 2
    have r3 := blk_cell NS.out.1 3
    refine bodyPost_ret (v := .agg #[.int .i64 n0, .string n1, .int .i64 n2, .slice na n3.len nc]) (by simp [results, Try.results82, go_sem, r0, r1, r2, r3]) rfl ?_
    have N7 := N4.out.chg NS.out.2 (fun x hx e => hx.2.2 e)
    exact ⟨⟨_, _, rfl, N7.up (fun x hx => ⟨hx.1, by have h1 := NS.out.2.size; have h2 := Z4.out; have h3 := HD.out; omega⟩), HQ4.out⟩, FS.out, CS.out⟩
   ·
    have LAW := hide (fun b hq => typB_yes HR1.out hb b hq)
    have nb : nextB ts s (Rz.st (.ok ((n0, n1, n2, n3), k1) : Rz Nd)) bArrow = true := hb
    have ns : nextSt ts s (Rz.st (.ok ((n0, n1, n2, n3), k1) : Rz Nd)) bArrow = .ok (k1 + 1) := by simp [nextSt, Rz.st, hb]
    rw [nb, ns] at NX
    dsimp only at LAW
    clear nb ns HR1 hb
    generalize typB ts s inner k = R at *
    refine NX.out.mono ?_
    rintro e w4 ⟨rfl, h4, g4⟩
    have H4 := hide (h4.chg (Chg.refl (fun _ => False) w4).drew (fun _ _ h => h))
    have B4 := hide (g4.blkS (by have := HL.out; omega) B3.out)
    have G4 := hide ((G3.out.trans (g4.mono (T := Pw rb pb) (fun x _ h => Or.inr h))).drew)
    have N4 := hide ((N3.out.chg g4 (fun x hx e => by have h1 := hx.1; have h2 := HL.out; omega)).chg (Chg.refl (fun _ => False) w4).drew (fun _ _ h => h))
    have Z4 : Hid (D < w4.heap.size ∧ w2.heap.size ≤ w4.heap.size ∧ D = w2.heap.size) := hide (by have h1 := g4.size; have h2 := Z3.out; have h3 := HD.out; omega)
    have x4 := g4.cell (by have := HL.out; omega) x3
    have p0 := g4.cell (by have := DL.out; omega) q0
    have p1 := g4.cell (by have := DL.out; omega) q1
    have p2 := g4.cell (by have := DL.out; omega) q2
    have p3 := g4.cell (by have := DL.out; omega) q3
    clear h4 g4 NX q0 q1 q2 q3 x3
    go_wp2_with fail
    refine wp_region_held_drew (S := (fun w' => w'.cell? ⟨bx, 0, none⟩ = some (.pointer (some ⟨pb, 0, none⟩)) ∧ w'.cell? ⟨D, 0, none⟩ = some (.int .i64 n0) ∧ w'.cell? ⟨D, 1, none⟩ = some (.string n1) ∧ w'.cell? ⟨D, 2, none⟩ = some (.int .i64 n2) ∧ w'.cell? ⟨D, 3, none⟩ = some (.slice na n3.len nc))) (by kernel_rfl) (by go_keep) (fun hHeld => ?_)
    first
     | (refine tku 0 ?_)
     | (refine tkl 0 ?_ ?_ ?_
        rotate_left
        (intro w hSw
         (try dsimp only at hSw)
         (go_simp <;> with_reducible rfl)))
    try simp only [Act.put, puts]
    first
     | (refine tku 1 ?_)
     | (refine tkl 1 ?_ ?_ ?_
        rotate_left
        (intro w hSw
         (try dsimp only at hSw)
         (go_simp <;> with_reducible rfl)))
    try simp only [Act.put, puts]
    first
     | (refine tku 2 ?_)
     | (refine tkl 2 ?_ ?_ ?_
        rotate_left
        (intro w hSw
         (try dsimp only at hSw)
         (go_simp <;> with_reducible rfl)))
    try simp only [Act.put, puts]
    first
     | (refine tku 3 ?_)
     | (refine tkl 3 ?_ ?_ ?_
        rotate_left
        (intro w hSw
         (try dsimp only at hSw)
         (go_simp <;> with_reducible rfl)))
    try simp only [Act.put, puts]
    refine rd1 4 (fun K hK => ?_)
    go_simp
    refine (HIN.out w4.drew (k1 + 1) H4.out).mono ?_
    rintro e w5 ⟨⟨u, m, rfl, hm, hq⟩, h5, g5⟩
    obtain ⟨ma, mc, rfl, _⟩ := id hm
    have LW := hide (LAW.out m hq)
    clear LAW hq
    obtain ⟨m0, m1, m2, m3⟩ := m
    dsimp only [Nd.kind, Nd.word, Nd.at, Nd.kids] at *
    have y0 := g5.cell (by have := HL.out; rintro (e | e) <;> omega) x4
    have y1 := g5.cell (by have := DL.out; rintro (e | e) <;> omega) p0
    have y2 := g5.cell (by have := DL.out; rintro (e | e) <;> omega) p1
    have y3 := g5.cell (by have := DL.out; rintro (e | e) <;> omega) p2
    have y4 := g5.cell (by have := DL.out; rintro (e | e) <;> omega) p3
    have GE := al w5 (.cells #[.int .i64 n0, .string n1, .int .i64 n2, .slice na n3.len nc, .int .i64 m0, .string m1, .int .i64 m2, .slice ma m3.len mc] 51)
    have BE := hide (blk_new w5 (.cells #[.int .i64 n0, .string n1, .int .i64 n2, .slice na n3.len nc, .int .i64 m0, .string m1, .int .i64 m2, .slice ma m3.len mc] 51))
    have z0 := GE.cell (fun h => h) y0
    have z1 := GE.cell (fun h => h) y1
    have z2 := GE.cell (fun h => h) y2
    have z3 := GE.cell (fun h => h) y3
    have z4 := GE.cell (fun h => h) y4
    have H6 := hide (h5.chg GE (fun _ _ h => h))
    rw [LW.out.1] at H6
    have B6 := hide (GE.blk (g5.blkS (by have := HL.out; rintro (e | e) <;> omega) B4.out))
    have G6 := hide ((G4.out.trans g5).trans GE.none)
    have hA5 : A < w5.heap.size := by have h1 := g5.size; have h2 := Z4.out; have h3 := DL.out; have h4 : w4.drew.heap.size = w4.heap.size := rfl; omega
    have hw4 : w4.drew.heap.size = w4.heap.size := rfl
    have NA := ((N4.out.chg g5 (fun x hx e => by have h1 := hx.1; have h2 := HL.out; rcases e with e | e <;> omega)).chg GE (fun _ _ h => h)).up (Y := fun x => w.heap.size ≤ x ∧ x < (w5.alloc (.cells #[.int .i64 n0, .string n1, .int .i64 n2, .slice na n3.len nc, .int .i64 m0, .string m1, .int .i64 m2, .slice ma m3.len mc] 51)).heap.size ∧ x ≠ A) (fun x hx => ⟨hx.1, by have h1 := g5.size; have h2 := Z4.out; have h3 := GE.size; omega, hx.2.2⟩)
    have NB := (hm.chg GE (fun _ _ h => h)).up (Y := fun x => w.heap.size ≤ x ∧ x < (w5.alloc (.cells #[.int .i64 n0, .string n1, .int .i64 n2, .slice na n3.len nc, .int .i64 m0, .string m1, .int .i64 m2, .slice ma m3.len mc] 51)).heap.size ∧ x ≠ A) (fun x hx => ⟨by have h1 := HS2.out; have h2 := Z4.out; omega, by have h3 := GE.size; omega, by have h2 := Z4.out; have h3 := DL.out; omega⟩)
    obtain ⟨_, _, ea, NA⟩ := NA
    obtain ⟨_, _, eb, NB⟩ := NB
    have N6 := hide (nv_two (X := fun x => w.heap.size ≤ x ∧ x < (w5.alloc (.cells #[.int .i64 n0, .string n1, .int .i64 n2, .slice na n3.len nc, .int .i64 m0, .string m1, .int .i64 m2, .slice ma m3.len mc] 51)).heap.size ∧ x ≠ A) (g := w5.heap.size) (n := (n0, n1, n2, n3)) (m := (m0, m1, m2, m3)) 2 n2 ⟨by have h1 := HL.out; omega, by simp, by omega⟩ BE.out (by cases ea; exact NA) (by cases eb; exact NB))
    clear h5 GE hm NA NB ea eb hA5 hw4
    go_simp
    refine hK.out _ _ ⟨g5.cell (by have := HL.out; rintro (e | e) <;> omega) x4, g5.cell (by have := DL.out; rintro (e | e) <;> omega) p0, g5.cell (by have := DL.out; rintro (e | e) <;> omega) p1, g5.cell (by have := DL.out; rintro (e | e) <;> omega) p2, g5.cell (by have := DL.out; rintro (e | e) <;> omega) p3⟩ (fun hHeld => ?_)
    clear hK K
    try simp only [Act.put, puts]
    clear y0 y1 y2 y3 y4 x4 p0 p1 p2 p3 g5
    refine rd1 5 (fun K hK => ?_)
    go_simp
    refine hK.out _ _ ⟨z0, z1, z2, z3, z4⟩ (fun hHeld => ?_)
    clear hK K
    try simp only [Act.put, puts]
    obtain ⟨E, hE⟩ : ∃ E, w5.heap.size = E := ⟨_, rfl⟩
    rw [hE] at N6 BE ⊢
    have HE := hide hE
    clear hE
    generalize w5.alloc (.cells #[.int .i64 n0, .string n1, .int .i64 n2, .slice na n3.len nc, .int .i64 m0, .string m1, .int .i64 m2, .slice ma m3.len mc] 51) = w6 at *
    first
     | (refine tku 6 ?_)
     | (refine tkl 6 ?_ ?_ ?_
        rotate_left
        (intro w hSw
         (try dsimp only at hSw)
         (go_simp <;> with_reducible rfl)))
    try simp only [Act.put, puts]
    refine rd1 7 (fun K hK => ?_)
    have b0 := blk_cell B6.out 0
    have b1 := blk_cell B6.out 1
    have b2 := blk_cell B6.out 2
    have b3 := blk_cell B6.out 3
    have f0 := blk_free B6.out 0
    have f1 := blk_free B6.out 1
    have f2 := blk_free B6.out 2
    have f3 := blk_free B6.out 3
    have NS := hide (nv_set B6.out (.int .i64 2) (.string ⟨#[]⟩) (.int .i64 n2) (.slice (some ⟨E, 0, none⟩) 2 2))
    have FS := hide (H6.out.chg NS.out.2 (fun x hx e => by have h1 := HL.out; omega))
    have CS := hide (chg_fresh G6.out NS.out.2 (by have h1 := HL.out; omega))
    have v0 := NS.out.2.cell (by have := HL.out; omega) z0
    have v1 := NS.out.2.cell (by have := DL.out; omega) z1
    have v2 := NS.out.2.cell (by have := DL.out; omega) z2
    have v3 := NS.out.2.cell (by have := DL.out; omega) z3
    have v4 := NS.out.2.cell (by have := DL.out; omega) z4
    go_simp
    refine hK.out _ _ ⟨v0, v1, v2, v3, v4⟩ (fun hHeld => ?_)
    clear hK K
    try simp only [Act.put, puts]
    refine wpAnyH_done (by kernel_rfl) ?_ _
    go_wp2_with fail
    generalize ((((w6.setCell ⟨A, 0, none⟩ (.int .i64 2)).setCell ⟨A, 1, none⟩ (.string ⟨#[]⟩)).setCell ⟨A, 2, none⟩ (.int .i64 n2)).setCell ⟨A, 3, none⟩ (.slice (some ⟨E, 0, none⟩) 2 2)) = wF at *
    have r0 := blk_cell NS.out.1 0
    have r1 := blk_cell NS.out.1 1
    have r2 := blk_cell NS.out.1 2
    have r3 := blk_cell NS.out.1 3
    refine bodyPost_ret (v := .agg #[.int .i64 2, .string ⟨#[]⟩, .int .i64 n2, .slice (some ⟨E, 0, none⟩) 2 2]) (by simp [results, Try.results82, go_sem, r0, r1, r2, r3]) rfl ?_
    refine ⟨⟨_, _, rfl, (N6.out.chg NS.out.2 (fun x hx e => hx.2.2 e)).up (fun x hx => ⟨hx.1, by have h1 := NS.out.2.size; omega⟩), LW.out.2⟩, FS.out, CS.out⟩
end Go.Proofs.Ytboeeaekhijboaa
