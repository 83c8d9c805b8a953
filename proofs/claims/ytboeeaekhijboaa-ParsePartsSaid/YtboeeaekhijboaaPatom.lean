/- The program's parser: atom, opened, typ. -/
import Derived.Test.YtboeeaekhijboaaPtok
namespace Go.Proofs.Ytboeeaekhijboaa
open Go.RowKit
set_option linter.unusedVariables false
set_option linter.unusedSimpArgs false

/-- a node was read, or a fault lies there -/
def POut (w : World) (rb pb : Nat) (v : Value) (ts : List Tok) (s : ByteArray) (o : Nat) (r : Rz Nd) (e : Ending) (w' : World) : Prop :=
  (∃ u n, e = .returned u ∧ NV w' (fun x => w.heap.size ≤ x ∧ x < w'.heap.size) u n ∧ ∀ q, r = .ok q → n = q.1) ∧ PS w' rb pb v ts s o r.st ∧ Chg (Pw rb pb) w w'
theorem POut.of {w : World} {rb pb : Nat} {v : Value} {ts : List Tok} {s : ByteArray} {o : Nat} {r r' : Rz Nd} {e : Ending} {w' : World} (h : POut w rb pb v ts s o r e w') (hr : r = r') : POut w rb pb v ts s o r' e w' := hr ▸ h
/-- what is read is where one stands -/
theorem atom_law (ts : List Tok) (s : ByteArray) (inner : Nat → Rz Nd) (k : Nat) (h : eatB ts s bLp k = true) (n : Nd) (hn : ∀ q, inner (k + 1) = .ok q → n = q.1) :
    ((inner (k + 1)).st.then (mustS ts s bRp)) = (atomS ts s inner k).st ∧ ∀ q, atomS ts s inner k = .ok q → n = q.1 := by
  unfold atomS
  rw [if_pos h]
  cases e : inner (k + 1) with
  | error x => exact ⟨rfl, fun q hq => by cases hq⟩
  | ok q =>
    simp only [Rz.bind, Rz.st, St.then]
    cases e2 : mustS ts s bRp q.2 with
    | error x => exact ⟨rfl, fun q hq => by cases hq⟩
    | ok k2 => exact ⟨rfl, fun q' hq => by simp only [St.bind] at hq; cases hq; exact hn q e⟩
theorem atom_law2 (ts : List Tok) (s : ByteArray) (inner : Nat → Rz Nd) (k : Nat) (h : eatB ts s bLp k = false) :
    (tokS ts s 1 k).st = (atomS ts s inner k).st ∧ ∀ q, atomS ts s inner k = .ok q → ((1, (tokOf (tokS ts s 1 k)).2.1, ((tokOf (tokS ts s 1 k)).2.2 : Int), Ns.nil) : Nd) = q.1 := by
  unfold atomS
  rw [if_neg (by rw [h]; decide)]
  cases e : tokS ts s 1 k with
  | error x => exact ⟨rfl, fun q hq => by cases hq⟩
  | ok q => exact ⟨rfl, fun q' hq => by simp only [Rz.bind] at hq; cases hq; rfl⟩
/-- a node in a block of its own -/
theorem nv_set {w : World} {A : Nat} {T : TypeId} {x0 x1 x2 x3 : Value} (h : w.heap[A]? = some (.cells #[x0, x1, x2, x3] T)) (a b c d : Value) :
    ((((w.setCell ⟨A, 0, none⟩ a).setCell ⟨A, 1, none⟩ b).setCell ⟨A, 2, none⟩ c).setCell ⟨A, 3, none⟩ d).heap[A]? = some (.cells #[a, b, c, d] T) ∧ Chg (fun x => x = A) w ((((w.setCell ⟨A, 0, none⟩ a).setCell ⟨A, 1, none⟩ b).setCell ⟨A, 2, none⟩ c).setCell ⟨A, 3, none⟩ d) :=
  ⟨blk_set (blk_set (blk_set (blk_set h 0 a) 1 b) 2 c) 3 d, (((Chg.set w A 0 a).trans (Chg.set _ A 1 b)).trans (Chg.set _ A 2 c)).trans (Chg.set _ A 3 d)⟩
theorem chg_fresh {w w1 w2 : World} {rb pb A : Nat} (h1 : Chg (Pw rb pb) w w1) (h2 : Chg (fun x => x = A) w1 w2) (hA : w.heap.size ≤ A) : Chg (Pw rb pb) w w2 :=
  ((h1.mono (T := fun x => Pw rb pb x ∨ x = A) (fun x _ h => Or.inl h)).trans (h2.mono (fun x _ h => Or.inr h))).mono (fun x hx e => by
    rcases e with e | e
    · exact e
    · omega)

set_option maxRecDepth 100000 in
set_option maxHeartbeats 4000000 in
theorem atom_typ {rb pb : Nat} {v : Value} {ts : List Tok} {s : ByteArray} {o : Nat} (inner : Nat → Rz Nd) (hin : ∀ w k, PS w rb pb v ts s o (.ok k) → Calls Try.prog 43 #[.pointer (some ⟨pb, 0, none⟩)] w (POut w rb pb v ts s o (inner k)))
    {k : Nat} {w : World} (h : PS w rb pb v ts s o (.ok k)) :
    Calls Try.prog 79 #[.pointer (some ⟨pb, 0, none⟩), .func (.func 43) #[.pointer (some ⟨pb, 0, none⟩)] #[]] w (POut w rb pb v ts s o (atomS ts s inner k)) := by
  have G0 := hide (al w (.cells #[.int .i64 0, .string ⟨#[]⟩, .int .i64 0, .slice none 0 0] 51))
  have B0 := hide (blk_new w (.cells #[.int .i64 0, .string ⟨#[]⟩, .int .i64 0, .slice none 0 0] 51))
  have H0 := hide (h.chg G0.out (fun _ _ h => h))
  have hl := h.lt
  have HIN := hide hin
  obtain ⟨A, hA⟩ : ∃ A, w.heap.size = A := ⟨_, rfl⟩
  have HL : Hid (rb < pb ∧ pb < A ∧ w.heap.size = A) := hide ⟨hl.1, by omega, hA⟩
  rw [hA] at B0
  clear h hl hin hA
  cases hb : eatB ts s bLp k
  · have LAW := hide (atom_law2 ts s inner k hb)
    have NX := hide (next_any bLp H0.out)
    have nb : nextB ts s (.ok k) bLp = false := hb
    have ns : nextSt ts s (.ok k) bLp = .ok k := by simp [nextSt, hb]
    rw [nb, ns] at NX
    clear nb ns hb
    generalize atomS ts s inner k = R at *
    go_enter Try.func79, Try.ntmps79
    go_wp2_with fail
    rw [HL.out.2.2]
    generalize w.alloc (.cells #[.int .i64 0, .string ⟨#[]⟩, .int .i64 0, .slice none 0 0] 51) = w1 at *
    refine NX.out.mono ?_
    rintro e w2 ⟨rfl, h2, g2⟩
    have TK := hide (token_any 1 (by decide) h2)
    have B2 := hide (g2.blkS (by have := HL.out; omega) B0.out)
    have G2 := hide (G0.out.none.trans (g2.mono (T := Pw rb pb) (fun x _ h => Or.inr h)))
    clear h2 g2 NX
    have TK : Hid (Calls Try.prog 93 #[.pointer (some ⟨pb, 0, none⟩), .int .i64 1] w2 fun e w' => e = .returned (tokV (tokOf (tokS ts s 1 k))) ∧ PS w' rb pb v ts s o (tokS ts s 1 k).st ∧ Chg (Pw rb pb) w2 w') := TK
    generalize tokS ts s 1 k = r at *
    obtain ⟨t, ht⟩ : ∃ t, tokOf r = t := ⟨_, rfl⟩
    rw [ht] at TK LAW
    clear ht
    obtain ⟨t0, t1, t2⟩ := t
    have etv : tokV (t0, t1, t2) = .agg #[.int .i64 t0, .string t1, .int .i64 (t2 : Int)] := rfl
    rw [etv] at TK
    clear etv
    go_wp2_with fail
    refine TK.out.mono ?_
    rintro e w3 ⟨rfl, h3, g3⟩
    have GT := al w3 (.cells #[.int .i64 t0, .string t1, .int .i64 (t2 : Int)] 75)
    have BT := blk_new w3 (.cells #[.int .i64 t0, .string t1, .int .i64 (t2 : Int)] 75)
    have H3 := hide (h3.chg GT (fun _ _ h => h))
    have B3 := hide (GT.blk (g3.blkS (by have := HL.out; omega) B2.out))
    have G3 := hide ((G2.out.trans g3).trans GT.none)
    have q1 := blk_cell BT 1
    have q2 := blk_cell BT 2
    simp only [List.getElem?_toArray, List.getElem?_cons_zero, List.getElem?_cons_succ] at q1 q2
    rw [LAW.out.1] at H3
    clear h3 g3 GT BT
    have b0 := blk_cell B3.out 0
    have b1 := blk_cell B3.out 1
    have b2 := blk_cell B3.out 2
    have b3 := blk_cell B3.out 3
    have f0 := blk_free B3.out 0
    have f1 := blk_free B3.out 1
    have f2 := blk_free B3.out 2
    have f3 := blk_free B3.out 3
    have NS := hide (nv_set B3.out (.int .i64 1) (.string t1) (.int .i64 (t2 : Int)) (.slice none 0 0))
    have FS := hide (H3.out.chg NS.out.2 (fun x hx e => by have h1 := HL.out; omega))
    have CS := hide (chg_fresh G3.out NS.out.2 (by have h1 := HL.out; omega))
    go_wp2_with fail
    generalize (((((w3.alloc (.cells #[.int .i64 t0, .string t1, .int .i64 (t2 : Int)] 75)).setCell ⟨A, 0, none⟩ (.int .i64 1)).setCell ⟨A, 1, none⟩ (.string t1)).setCell ⟨A, 2, none⟩ (.int .i64 (t2 : Int))).setCell ⟨A, 3, none⟩ (.slice none 0 0)) = wF at *
    have r0 := blk_cell NS.out.1 0
    have r1 := blk_cell NS.out.1 1
    have r2 := blk_cell NS.out.1 2
    have r3 := blk_cell NS.out.1 3
    refine bodyPost_ret (v := .agg #[.int .i64 1, .string t1, .int .i64 (t2 : Int), .slice none 0 0]) (by simp [results, Try.results79, go_sem, r0, r1, r2, r3]) rfl ?_
    exact ⟨⟨_, _, rfl, NV.leaf _ _ 1 t1 (t2 : Int), LAW.out.2⟩, FS.out, CS.out⟩
  · have LAW := hide (fun n hn => atom_law ts s inner k hb n hn)
    have NX := hide (next_any bLp H0.out)
    have nb : nextB ts s (.ok k) bLp = true := hb
    have ns : nextSt ts s (.ok k) bLp = .ok (k + 1) := by simp [nextSt, hb]
    rw [nb, ns] at NX
    clear nb ns hb
    generalize atomS ts s inner k = R at *
    go_enter Try.func79, Try.ntmps79
    go_wp2_with fail
    rw [HL.out.2.2]
    generalize w.alloc (.cells #[.int .i64 0, .string ⟨#[]⟩, .int .i64 0, .slice none 0 0] 51) = w1 at *
    refine NX.out.mono ?_
    rintro e w2 ⟨rfl, h2, g2⟩
    have H2 := hide h2
    have B2 := hide (g2.blkS (by have := HL.out; omega) B0.out)
    have G2 := hide (G0.out.none.trans (g2.mono (T := Pw rb pb) (fun x _ h => Or.inr h)))
    have Z2 : Hid (w.heap.size ≤ w2.heap.size) := hide (by have h1 := G0.out.size; have h3 := g2.size; omega)
    clear h2 g2 NX
    go_wp2_with fail
    refine (HIN.out w2 (k + 1) H2.out).mono ?_
    rintro e w3 ⟨⟨u, n, rfl, hn, hq⟩, h3, g3⟩
    obtain ⟨ka, kc, rfl, _⟩ := id hn
    have LW := hide (LAW.out n hq)
    clear LAW hq
    obtain ⟨n0, n1, n2, n3⟩ := n
    dsimp only [Nd.kind, Nd.word, Nd.at, Nd.kids] at *
    have GT := al w3 (.cells #[.int .i64 n0, .string n1, .int .i64 n2, .slice ka n3.len kc] 51)
    have BT := hide (blk_new w3 (.cells #[.int .i64 n0, .string n1, .int .i64 n2, .slice ka n3.len kc] 51))
    have H3 := hide (h3.chg GT (fun _ _ h => h))
    have N3 := hide ((hn.chg GT (fun _ _ h => h)).up (Y := fun x => w.heap.size ≤ x ∧ x < w3.heap.size ∧ x ≠ A) (fun x hx => ⟨by have := Z2.out; omega, hx.2, by have h1 := olt B2.out; omega⟩))
    have B3 := hide (GT.blk (g3.blkS (by have := HL.out; omega) B2.out))
    have G3 := hide ((G2.out.trans g3).trans GT.none)
    obtain ⟨D, hD⟩ : ∃ D, w3.heap.size = D := ⟨_, rfl⟩
    have Z3 := hide (olt BT.out)
    rw [hD] at N3 BT Z3
    have DL : Hid (pb < D ∧ A < D ∧ rb < D) := hide (by have h1 := h3.lt; have h2 := olt (g3.blkS (by have := HL.out; omega) B2.out); omega)
    clear h3 g3 GT hn
    go_wp2_with fail
    clear hD
    generalize w3.alloc (.cells #[.int .i64 n0, .string n1, .int .i64 n2, .slice ka n3.len kc] 51) = w4 at *
    refine (must_any bRp H3.out).mono ?_
    rintro e w5 ⟨rfl, h5, g5⟩
    have H5 := hide h5
    rw [LW.out.1] at H5
    have B5 := hide (g5.blkS (by have := HL.out; rintro (e | e) <;> omega) B3.out)
    have T5 := hide (g5.blkS (by have := DL.out; rintro (e | e) <;> omega) BT.out)
    have G5 := hide (G3.out.trans g5)
    have N5 := hide (N3.out.chg g5 (fun x hx e => by have h1 := hx.1; have h2 := HL.out; rcases e with e | e <;> omega))
    have Z5 : Hid (D < w5.heap.size) := hide (by have h1 := g5.size; have h2 := Z3.out; omega)
    clear h5 g5 N3
    have q0 := blk_cell T5.out 0
    have q1 := blk_cell T5.out 1
    have q2 := blk_cell T5.out 2
    have q3 := blk_cell T5.out 3
    simp only [List.getElem?_toArray, List.getElem?_cons_zero, List.getElem?_cons_succ] at q0 q1 q2 q3
    have b0 := blk_cell B5.out 0
    have b1 := blk_cell B5.out 1
    have b2 := blk_cell B5.out 2
    have b3 := blk_cell B5.out 3
    have f0 := blk_free B5.out 0
    have f1 := blk_free B5.out 1
    have f2 := blk_free B5.out 2
    have f3 := blk_free B5.out 3
    have NS := hide (nv_set B5.out (.int .i64 n0) (.string n1) (.int .i64 n2) (.slice ka n3.len kc))
    have FS := hide (H5.out.chg NS.out.2 (fun x hx e => by have h1 := HL.out; omega))
    have CS := hide (chg_fresh G5.out NS.out.2 (by have h1 := HL.out; omega))
    go_wp2_with fail
    generalize ((((w5.setCell ⟨A, 0, none⟩ (.int .i64 n0)).setCell ⟨A, 1, none⟩ (.string n1)).setCell ⟨A, 2, none⟩ (.int .i64 n2)).setCell ⟨A, 3, none⟩ (.slice ka n3.len kc)) = wF at *
    have r0 := blk_cell NS.out.1 0
    have r1 := blk_cell NS.out.1 1
    have r2 := blk_cell NS.out.1 2
    have r3 := blk_cell NS.out.1 3
    refine bodyPost_ret (v := .agg #[.int .i64 n0, .string n1, .int .i64 n2, .slice ka n3.len kc]) (by simp [results, Try.results79, go_sem, r0, r1, r2, r3]) rfl ?_
    have N7 := N5.out.chg NS.out.2 (fun x hx e => hx.2.2 e)
    exact ⟨⟨_, _, rfl, N7.up (fun x hx => ⟨hx.1, by have h1 := NS.out.2.size; have h2 := Z5.out; omega⟩), LW.out.2⟩, FS.out, CS.out⟩

set_option maxRecDepth 100000 in
set_option maxHeartbeats 4000000 in
theorem atom_term {rb pb : Nat} {v : Value} {ts : List Tok} {s : ByteArray} {o : Nat} (inner : Nat → Rz Nd) (hin : ∀ w k, PS w rb pb v ts s o (.ok k) → Calls Try.prog 40 #[.pointer (some ⟨pb, 0, none⟩)] w (POut w rb pb v ts s o (inner k)))
    {k : Nat} {w : World} (h : PS w rb pb v ts s o (.ok k)) :
    Calls Try.prog 79 #[.pointer (some ⟨pb, 0, none⟩), .func (.func 40) #[.pointer (some ⟨pb, 0, none⟩)] #[]] w (POut w rb pb v ts s o (atomS ts s inner k)) := by
  have G0 := hide (al w (.cells #[.int .i64 0, .string ⟨#[]⟩, .int .i64 0, .slice none 0 0] 51))
  have B0 := hide (blk_new w (.cells #[.int .i64 0, .string ⟨#[]⟩, .int .i64 0, .slice none 0 0] 51))
  have H0 := hide (h.chg G0.out (fun _ _ h => h))
  have hl := h.lt
  have HIN := hide hin
  obtain ⟨A, hA⟩ : ∃ A, w.heap.size = A := ⟨_, rfl⟩
  have HL : Hid (rb < pb ∧ pb < A ∧ w.heap.size = A) := hide ⟨hl.1, by omega, hA⟩
  rw [hA] at B0
  clear h hl hin hA
  cases hb : eatB ts s bLp k
  · have LAW := hide (atom_law2 ts s inner k hb)
    have NX := hide (next_any bLp H0.out)
    have nb : nextB ts s (.ok k) bLp = false := hb
    have ns : nextSt ts s (.ok k) bLp = .ok k := by simp [nextSt, hb]
    rw [nb, ns] at NX
    clear nb ns hb
    generalize atomS ts s inner k = R at *
    go_enter Try.func79, Try.ntmps79
    go_wp2_with fail
    rw [HL.out.2.2]
    generalize w.alloc (.cells #[.int .i64 0, .string ⟨#[]⟩, .int .i64 0, .slice none 0 0] 51) = w1 at *
    refine NX.out.mono ?_
    rintro e w2 ⟨rfl, h2, g2⟩
    have TK := hide (token_any 1 (by decide) h2)
    have B2 := hide (g2.blkS (by have := HL.out; omega) B0.out)
    have G2 := hide (G0.out.none.trans (g2.mono (T := Pw rb pb) (fun x _ h => Or.inr h)))
    clear h2 g2 NX
    have TK : Hid (Calls Try.prog 93 #[.pointer (some ⟨pb, 0, none⟩), .int .i64 1] w2 fun e w' => e = .returned (tokV (tokOf (tokS ts s 1 k))) ∧ PS w' rb pb v ts s o (tokS ts s 1 k).st ∧ Chg (Pw rb pb) w2 w') := TK
    generalize tokS ts s 1 k = r at *
    obtain ⟨t, ht⟩ : ∃ t, tokOf r = t := ⟨_, rfl⟩
    rw [ht] at TK LAW
    clear ht
    obtain ⟨t0, t1, t2⟩ := t
    have etv : tokV (t0, t1, t2) = .agg #[.int .i64 t0, .string t1, .int .i64 (t2 : Int)] := rfl
    rw [etv] at TK
    clear etv
    go_wp2_with fail
    refine TK.out.mono ?_
    rintro e w3 ⟨rfl, h3, g3⟩
    have GT := al w3 (.cells #[.int .i64 t0, .string t1, .int .i64 (t2 : Int)] 75)
    have BT := blk_new w3 (.cells #[.int .i64 t0, .string t1, .int .i64 (t2 : Int)] 75)
    have H3 := hide (h3.chg GT (fun _ _ h => h))
    have B3 := hide (GT.blk (g3.blkS (by have := HL.out; omega) B2.out))
    have G3 := hide ((G2.out.trans g3).trans GT.none)
    have q1 := blk_cell BT 1
    have q2 := blk_cell BT 2
    simp only [List.getElem?_toArray, List.getElem?_cons_zero, List.getElem?_cons_succ] at q1 q2
    rw [LAW.out.1] at H3
    clear h3 g3 GT BT
    have b0 := blk_cell B3.out 0
    have b1 := blk_cell B3.out 1
    have b2 := blk_cell B3.out 2
    have b3 := blk_cell B3.out 3
    have f0 := blk_free B3.out 0
    have f1 := blk_free B3.out 1
    have f2 := blk_free B3.out 2
    have f3 := blk_free B3.out 3
    have NS := hide (nv_set B3.out (.int .i64 1) (.string t1) (.int .i64 (t2 : Int)) (.slice none 0 0))
    have FS := hide (H3.out.chg NS.out.2 (fun x hx e => by have h1 := HL.out; omega))
    have CS := hide (chg_fresh G3.out NS.out.2 (by have h1 := HL.out; omega))
    go_wp2_with fail
    generalize (((((w3.alloc (.cells #[.int .i64 t0, .string t1, .int .i64 (t2 : Int)] 75)).setCell ⟨A, 0, none⟩ (.int .i64 1)).setCell ⟨A, 1, none⟩ (.string t1)).setCell ⟨A, 2, none⟩ (.int .i64 (t2 : Int))).setCell ⟨A, 3, none⟩ (.slice none 0 0)) = wF at *
    have r0 := blk_cell NS.out.1 0
    have r1 := blk_cell NS.out.1 1
    have r2 := blk_cell NS.out.1 2
    have r3 := blk_cell NS.out.1 3
    refine bodyPost_ret (v := .agg #[.int .i64 1, .string t1, .int .i64 (t2 : Int), .slice none 0 0]) (by simp [results, Try.results79, go_sem, r0, r1, r2, r3]) rfl ?_
    exact ⟨⟨_, _, rfl, NV.leaf _ _ 1 t1 (t2 : Int), LAW.out.2⟩, FS.out, CS.out⟩
  · have LAW := hide (fun n hn => atom_law ts s inner k hb n hn)
    have NX := hide (next_any bLp H0.out)
    have nb : nextB ts s (.ok k) bLp = true := hb
    have ns : nextSt ts s (.ok k) bLp = .ok (k + 1) := by simp [nextSt, hb]
    rw [nb, ns] at NX
    clear nb ns hb
    generalize atomS ts s inner k = R at *
    go_enter Try.func79, Try.ntmps79
    go_wp2_with fail
    rw [HL.out.2.2]
    generalize w.alloc (.cells #[.int .i64 0, .string ⟨#[]⟩, .int .i64 0, .slice none 0 0] 51) = w1 at *
    refine NX.out.mono ?_
    rintro e w2 ⟨rfl, h2, g2⟩
    have H2 := hide h2
    have B2 := hide (g2.blkS (by have := HL.out; omega) B0.out)
    have G2 := hide (G0.out.none.trans (g2.mono (T := Pw rb pb) (fun x _ h => Or.inr h)))
    have Z2 : Hid (w.heap.size ≤ w2.heap.size) := hide (by have h1 := G0.out.size; have h3 := g2.size; omega)
    clear h2 g2 NX
    go_wp2_with fail
    refine (HIN.out w2 (k + 1) H2.out).mono ?_
    rintro e w3 ⟨⟨u, n, rfl, hn, hq⟩, h3, g3⟩
    obtain ⟨ka, kc, rfl, _⟩ := id hn
    have LW := hide (LAW.out n hq)
    clear LAW hq
    obtain ⟨n0, n1, n2, n3⟩ := n
    dsimp only [Nd.kind, Nd.word, Nd.at, Nd.kids] at *
    have GT := al w3 (.cells #[.int .i64 n0, .string n1, .int .i64 n2, .slice ka n3.len kc] 51)
    have BT := hide (blk_new w3 (.cells #[.int .i64 n0, .string n1, .int .i64 n2, .slice ka n3.len kc] 51))
    have H3 := hide (h3.chg GT (fun _ _ h => h))
    have N3 := hide ((hn.chg GT (fun _ _ h => h)).up (Y := fun x => w.heap.size ≤ x ∧ x < w3.heap.size ∧ x ≠ A) (fun x hx => ⟨by have := Z2.out; omega, hx.2, by have h1 := olt B2.out; omega⟩))
    have B3 := hide (GT.blk (g3.blkS (by have := HL.out; omega) B2.out))
    have G3 := hide ((G2.out.trans g3).trans GT.none)
    obtain ⟨D, hD⟩ : ∃ D, w3.heap.size = D := ⟨_, rfl⟩
    have Z3 := hide (olt BT.out)
    rw [hD] at N3 BT Z3
    have DL : Hid (pb < D ∧ A < D ∧ rb < D) := hide (by have h1 := h3.lt; have h2 := olt (g3.blkS (by have := HL.out; omega) B2.out); omega)
    clear h3 g3 GT hn
    go_wp2_with fail
    clear hD
    generalize w3.alloc (.cells #[.int .i64 n0, .string n1, .int .i64 n2, .slice ka n3.len kc] 51) = w4 at *
    refine (must_any bRp H3.out).mono ?_
    rintro e w5 ⟨rfl, h5, g5⟩
    have H5 := hide h5
    rw [LW.out.1] at H5
    have B5 := hide (g5.blkS (by have := HL.out; rintro (e | e) <;> omega) B3.out)
    have T5 := hide (g5.blkS (by have := DL.out; rintro (e | e) <;> omega) BT.out)
    have G5 := hide (G3.out.trans g5)
    have N5 := hide (N3.out.chg g5 (fun x hx e => by have h1 := hx.1; have h2 := HL.out; rcases e with e | e <;> omega))
    have Z5 : Hid (D < w5.heap.size) := hide (by have h1 := g5.size; have h2 := Z3.out; omega)
    clear h5 g5 N3
    have q0 := blk_cell T5.out 0
    have q1 := blk_cell T5.out 1
    have q2 := blk_cell T5.out 2
    have q3 := blk_cell T5.out 3
    simp only [List.getElem?_toArray, List.getElem?_cons_zero, List.getElem?_cons_succ] at q0 q1 q2 q3
    have b0 := blk_cell B5.out 0
    have b1 := blk_cell B5.out 1
    have b2 := blk_cell B5.out 2
    have b3 := blk_cell B5.out 3
    have f0 := blk_free B5.out 0
    have f1 := blk_free B5.out 1
    have f2 := blk_free B5.out 2
    have f3 := blk_free B5.out 3
    have NS := hide (nv_set B5.out (.int .i64 n0) (.string n1) (.int .i64 n2) (.slice ka n3.len kc))
    have FS := hide (H5.out.chg NS.out.2 (fun x hx e => by have h1 := HL.out; omega))
    have CS := hide (chg_fresh G5.out NS.out.2 (by have h1 := HL.out; omega))
    go_wp2_with fail
    generalize ((((w5.setCell ⟨A, 0, none⟩ (.int .i64 n0)).setCell ⟨A, 1, none⟩ (.string n1)).setCell ⟨A, 2, none⟩ (.int .i64 n2)).setCell ⟨A, 3, none⟩ (.slice ka n3.len kc)) = wF at *
    have r0 := blk_cell NS.out.1 0
    have r1 := blk_cell NS.out.1 1
    have r2 := blk_cell NS.out.1 2
    have r3 := blk_cell NS.out.1 3
    refine bodyPost_ret (v := .agg #[.int .i64 n0, .string n1, .int .i64 n2, .slice ka n3.len kc]) (by simp [results, Try.results79, go_sem, r0, r1, r2, r3]) rfl ?_
    have N7 := N5.out.chg NS.out.2 (fun x hx e => hx.2.2 e)
    exact ⟨⟨_, _, rfl, N7.up (fun x hx => ⟨hx.1, by have h1 := NS.out.2.size; have h2 := Z5.out; omega⟩), LW.out.2⟩, FS.out, CS.out⟩
end Go.Proofs.Ytboeeaekhijboaa
