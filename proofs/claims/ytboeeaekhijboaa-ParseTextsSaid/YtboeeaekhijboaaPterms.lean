/- The program's parser: chain, terms, begins. The program's parser: terms, begins. -/
import Derived.Test.YtboeeaekhijboaaPwords
import Derived.Test.YtboeeaekhijboaaShort
namespace Go.Proofs.Ytboeeaekhijboaa
open Go.RowKit
set_option linter.unusedVariables false
set_option linter.unusedSimpArgs false

theorem chain_st (ts : List Tok) (s : ByteArray) (st : St) (x1 x2 : ByteArray) (hx : (tokOf (st.bind (tokS ts s 1))).2.1 = x1) (hy : (tokOf (((st.bind (tokS ts s 1)).st.then (mustS ts s bGt)).bind (tokS ts s 1))).2.1 = x2) :
  (∃ k f, (((st.bind (tokS ts s 1)).st.then (mustS ts s bGt)).bind (tokS ts s 1)).st = .ok k ∧ st.bind (chainS ts s) = moreC ts s f [x1, x2] k ∧ ts.length + 1 - k ≤ f) ∨
    (∃ x, (((st.bind (tokS ts s 1)).st.then (mustS ts s bGt)).bind (tokS ts s 1)).st = .error x ∧ st.bind (chainS ts s) = .error x) := by
 cases st with
 | error x => exact Or.inr ⟨x, rfl, rfl⟩
 | ok k =>
   simp only [St.bind, chainS] at hx hy ⊢
   cases e : tokS ts s 1 k with
   | error x => exact Or.inr ⟨x, rfl, rfl⟩
   | ok q =>
     rw [e] at hx hy
     simp only [Rz.bind, Rz.st, St.then] at hx hy ⊢
     cases e2 : mustS ts s bGt q.2 with
     | error x => exact Or.inr ⟨x, rfl, rfl⟩
     | ok k2 =>
       rw [e2] at hy
       simp only [St.bind] at hx hy ⊢
       cases e3 : tokS ts s 1 k2 with
       | error x => exact Or.inr ⟨x, rfl, rfl⟩
       | ok q3 =>
         rw [e3] at hy
         exact Or.inl ⟨q3.2, ts.length + 1 - q3.2, rfl, by simp only [Rz.bind]; rw [← hx, ← hy]; rfl, Nat.le_refl _⟩

set_option maxRecDepth 100000 in
set_option maxHeartbeats 8000000 in
theorem chain_any {rb pb : Nat} {v : Value} {ts : List Tok} {s : ByteArray} {o : Nat} {st : St} {w : World} (h : PS w rb pb v ts s o st) :
  Calls Try.prog 56 #[.pointer (some ⟨pb, 0, none⟩)] w (WOut w rb pb v ts s o (st.bind (chainS ts s))) := by
 obtain ⟨i0, hi0, hz0, hz1, hz2⟩ := info_parts info9
 have TK := hide (word_any h)
 have HL := hide h.lt
 have HN := hide h.env.len
 have LAW := hide (fun x1 x2 hx hy => chain_st ts s st x1 x2 hx hy)
 clear h
 generalize st.bind (chainS ts s) = R at *
 generalize st.bind (tokS ts s 1) = r1 at *
 obtain ⟨x1, hx1⟩ : ∃ x1, (tokOf r1).2.1 = x1 := ⟨_, rfl⟩
 rw [hx1] at TK
 have LAW := hide (fun x2 hy => LAW.out x1 x2 hx1 hy)
 clear hx1
 go_enter Try.func56, Try.ntmps56
 go_wp2_with fail
 refine TK.out.mono ?_
 rintro e w2 ⟨rfl, h2, g2⟩
 have GA := al w2 (.cells #[.string x1] 9)
 have H3 := hide (h2.chg GA (fun _ _ h => h))
 have G3 := hide (g2.trans GA.none)
 have O3 := hide (own_one (base := w.heap.size) (blk_new w2 (.cells #[.string x1] 9)) g2.size)
 clear h2 g2 GA TK
 go_wp2_with fail
 generalize w2.alloc (.cells #[.string x1] 9) = w3 at *
 generalize (Value.slice (some ⟨w2.heap.size, 0, none⟩) 1 1) = u3 at *
 have MU := hide (must_any bGt H3.out)
 generalize r1.st.then (mustS ts s bGt) = st2 at *
 refine MU.out.mono ?_
 rintro e w4 ⟨rfl, h4, g4⟩
 have O4 := hide (own_chgS O3.out g4 (fun x hx e => by have := HL.out; rcases e with e | e <;> omega))
 have G4 := hide (G3.out.trans g4)
 have WD := hide (word_any h4)
 clear h4 g4 MU H3 G3 O3
 generalize st2.bind (tokS ts s 1) = r3 at *
 obtain ⟨x2, hx2⟩ : ∃ x2, (tokOf r3).2.1 = x2 := ⟨_, rfl⟩
 rw [hx2] at WD
 have LAW := hide (LAW.out x2 hx2)
 clear hx2
 generalize r3.st = st3 at *
 go_wp2_with fail
 refine WD.out.mono ?_
 rintro e w5 ⟨rfl, h5, g5⟩
 obtain ⟨l, hl⟩ : ∃ l : List ByteArray, l = [x1] := ⟨_, rfl⟩
 rw [← hl] at O4
 have hll : l.length ≤ 20004 := by rw [hl]; simp
 have HLL := hide hl
 clear hl
 have GA := al w5 (.cells #[.string x2] 9)
 have H7 := hide (h5.chg GA (fun _ _ h => h))
 have O7 := hide (own_chgS (own_chgS O4.out g5 (fun x hx e => by have := HL.out; rcases e with e | e <;> omega)) GA (fun _ _ h => h))
 have G7 := hide ((G4.out.trans g5).trans GA.none)
 have N7 := hide (World.news_of_block (cs := #[.string x2]) (t := 9) (fr := (0, 0)) (heap_alloc_new w5 _))
 have P7 : w.heap.size ≤ (w5.alloc (.cells #[.string x2] 9)).heap.size := by have := G7.out.size; exact this
 clear h5 g5 GA WD O4 G4
 go_wp2_with (at_builtin; refine wpList_append_lies _ rfl _ _ 39 rfl w.heap.size 9 i0 (.string ⟨#[]⟩) 1 16 Try.underlying39 hi0 hz0 hz1 hz2 rfl (by decide) _ l.length (l.map .string) rfl O7.out ⟨w5.heap.size, 0, none⟩ 1 1 [.string x2] rfl rfl N7.out (by simp [Value.oneCell']) (by omega) (by simp [maxLen]; omega) (by omega) P7 (w5.heap.size + 1) (by simp) ?_; intro gg cap2 w6 hown hgrow hgat hglt)
 have AP := hide (WInv.append H7.out G7.out O7.out HL.out.2 hgrow)
 have O8 : Hid (w6.ownsRow w.heap.size 9 1 (.slice (some ⟨gg, 0, none⟩) (l.length + 1) cap2) (l ++ [x2]).length ((l ++ [x2]).map .string)) := hide (by rw [List.length_append, List.map_append]; exact hown)
 have I6 : Hid (∃ g, WInv w w6 rb pb v ts s o (moreC ts s) R (.slice (some ⟨gg, 0, none⟩) (l.length + 1) cap2) g) := hide (by
  have e2 : l ++ [x2] = [x1, x2] := by rw [HLL.out]; rfl
  rcases LAW.out with ⟨k, f, e, e3, hf⟩ | ⟨x, e, e3⟩
  ·
   have hp := AP.out.1
   rw [e] at hp
   have hle : k ≤ ts.length := hp.le
   exact ⟨ts.length + 2 - k, .ok k, l ++ [x2], hide hp, O8, hide AP.out.2, hide (Or.inl ⟨k, f, rfl, by rw [e2]; exact e3, hf, rfl⟩), hide (by rw [e2]; simp; omega)⟩
  ·
   have hp := AP.out.1
   rw [e] at hp
   exact ⟨0, .error x, l ++ [x2], hide hp, O8, hide AP.out.2, hide (Or.inr ⟨x, rfl, e3, rfl⟩), hide (by rw [e2]; simp)⟩)
 clear AP O8 hown hgrow hgat hglt H7 G7 O7 LAW
 obtain ⟨g0, I0⟩ := I6.out
 have I0 := hide I0
 clear I6
 go_wp2_with fail
 generalize (Value.slice (some ⟨gg, 0, none⟩) (l.length + 1) cap2) = u4 at *
 go_loopg [3] g0 (fun g u wr => Hid (WInv w wr rb pb v ts s o (moreC ts s) R u g))
 case atStart => exact I0
 case round =>
  have hI := hrel
  clear I0 hrel P7 hll HLL
  rename_i u
  obtain ⟨st, l, H4, O4, G4, J4, L4⟩ := hI.out
  clear hI
  have NX := hide (next_any bGt H4.out)
  cases st with
  | error x =>
    have QF : Hid (R.st = .error x ∧ ∀ q, R = .ok q → l = q.1) := hide (by
     rcases J4.out with ⟨k, f, e0, -⟩ | ⟨y, e0, e, -⟩
     ·
      cases e0
     ·
      cases e0
      rw [e]
      exact ⟨rfl, fun q hq => by cases hq⟩)
    have nb : nextB ts s (.error x) bGt = false := rfl
    have ns : nextSt ts s (.error x) bGt = .error x := rfl
    rw [nb, ns] at NX
    clear J4 nb ns
    go_wp2_with fail
    refine NX.out.mono ?_
    rintro e w5 ⟨rfl, h5, g5⟩
    have H5 : Hid (PS w5 rb pb v ts s o R.st) := hide (by rw [QF.out.1]; exact h5)
    have O5 := own_chgS O4.out g5 (fun x hx e => by have := HL.out; omega)
    have W5 := hide (sw_own (X := fun x => w.heap.size ≤ x ∧ x < w5.heap.size) O5 (fun r e => World.ownsRow.lt O5 r e))
    have G5 := hide (G4.out.trans (g5.mono (T := Pw rb pb) (fun x _ h => Or.inr h)))
    clear h5 g5 O5
    go_wp2_with fail
    go_ret
    exact ⟨⟨_, l, rfl, W5.out, QF.out.2⟩, H5.out, G5.out⟩
  | ok k =>
    have HLE : Hid (k ≤ ts.length) := hide H4.out.le
    obtain ⟨f, ER, EK, EG⟩ : ∃ f, Hid (R = moreC ts s (f + 1) l k) ∧ Hid (ts.length + 1 - k ≤ f + 1) ∧ Hid (gk = ts.length + 2 - k) := by
     have := HLE.out
     rcases J4.out with ⟨k', f, e0, e, hf, hg⟩ | ⟨y, e0, e, -⟩
     ·
      cases e0
      obtain ⟨f', rfl⟩ : ∃ f', f = f' + 1 := ⟨f - 1, by omega⟩
      exact ⟨f', e, hf, hg⟩
     ·
      cases e0
    clear J4
    cases hb : eatB ts s bGt k
    ·
     have nb : nextB ts s (.ok k) bGt = false := hb
     have ns : nextSt ts s (.ok k) bGt = .ok k := by simp [nextSt, hb]
     have ER2 : Hid (R = .ok (l, k)) := hide (by rw [ER.out, moreC, if_neg (by rw [hb]; decide)])
     rw [nb, ns] at NX
     clear nb ns hb ER
     go_wp2_with fail
     refine NX.out.mono ?_
     rintro e w5 ⟨rfl, h5, g5⟩
     have H5 : Hid (PS w5 rb pb v ts s o R.st) := hide (by rw [ER2.out]; exact h5)
     have O5 := own_chgS O4.out g5 (fun x hx e => by have := HL.out; omega)
     have W5 := hide (sw_own (X := fun x => w.heap.size ≤ x ∧ x < w5.heap.size) O5 (fun r e => World.ownsRow.lt O5 r e))
     have G5 := hide (G4.out.trans (g5.mono (T := Pw rb pb) (fun x _ h => Or.inr h)))
     clear h5 g5 O5
     go_wp2_with fail
     go_ret
     exact ⟨⟨_, l, rfl, W5.out, fun q hq => by rw [ER2.out] at hq; cases hq; rfl⟩, H5.out, G5.out⟩
    ·
     have nb : nextB ts s (.ok k) bGt = true := hb
     have ns : nextSt ts s (.ok k) bGt = .ok (k + 1) := by simp [nextSt, hb]
     have ER2 : Hid (R = (tokS ts s 1 (k + 1)).bind fun t k1 => moreC ts s f (l ++ [t.2.1]) k1) := hide (by rw [ER.out, moreC, if_pos hb])
     have TS := hide (tokS_lt (ts := ts) (s := s) (kind := 1) (k := k + 1) (by decide) (eatB_lt hb))
     rw [nb, ns] at NX
     clear nb ns hb ER
     go_wp2_with fail
     refine NX.out.mono ?_
     rintro e w5 ⟨rfl, h5, g5⟩
     have WD := hide (word_any h5)
     have WD : Hid (Calls Try.prog 57 #[.pointer (some ⟨pb, 0, none⟩)] w5 fun e w' => e = .returned (.string (tokOf (tokS ts s 1 (k + 1))).2.1) ∧ PS w' rb pb v ts s o (tokS ts s 1 (k + 1)).st ∧ Chg (Pw rb pb) w5 w') := WD
     have O5 := hide (own_chgS O4.out g5 (fun x hx e => by have := HL.out; omega))
     have G5 := hide (G4.out.trans (g5.mono (T := Pw rb pb) (fun x _ h => Or.inr h)))
     clear h5 g5 O4 NX H4 G4
     generalize tokS ts s 1 (k + 1) = r at *
     obtain ⟨t1, ht1⟩ : ∃ t1, (tokOf r).2.1 = t1 := ⟨_, rfl⟩
     rw [ht1] at WD
     have HT1 := hide ht1
     clear ht1
     go_wp2_with fail
     refine WD.out.mono ?_
     rintro e w6 ⟨rfl, h6, g6⟩
     have GA := al w6 (.cells #[.string t1] 9)
     have H7 := hide (h6.chg GA (fun _ _ h => h))
     have O7 := hide (own_chgS (own_chgS O5.out g6 (fun x hx e => by have := HL.out; rcases e with e | e <;> omega)) GA (fun _ _ h => h))
     have G7 := hide ((G5.out.trans g6).trans GA.none)
     have N7 := hide (World.news_of_block (cs := #[.string t1]) (t := 9) (fr := (0, 0)) (heap_alloc_new w6 _))
     have P7 : w.heap.size ≤ (w6.alloc (.cells #[.string t1] 9)).heap.size := by have := G7.out.size; exact this
     have hll : l.length ≤ 20004 := by have := L4.out; have := HN.out; omega
     clear h6 g6 GA WD O5
     go_wp2_with (at_builtin; refine wpList_append_lies _ rfl _ _ 39 rfl w.heap.size 9 i0 (.string ⟨#[]⟩) 1 16 Try.underlying39 hi0 hz0 hz1 hz2 rfl (by decide) _ l.length (l.map .string) rfl O7.out ⟨w6.heap.size, 0, none⟩ 1 1 [.string t1] rfl rfl N7.out (by simp [Value.oneCell']) (by omega) (by simp [maxLen]; omega) (by omega) P7 (w6.heap.size + 1) (by simp) ?_; intro gg cap2 w8 hown hgrow hgat hglt)
     have AP := hide (WInv.append H7.out G7.out O7.out HL.out.2 hgrow)
     have O8 : Hid (w8.ownsRow w.heap.size 9 1 (.slice (some ⟨gg, 0, none⟩) (l.length + 1) cap2) (l ++ [t1]).length ((l ++ [t1]).map .string)) := hide (by rw [List.length_append, List.map_append]; exact hown)
     have I8 : Hid (∃ g', g' < gk ∧ WInv w w8 rb pb v ts s o (moreC ts s) R (.slice (some ⟨gg, 0, none⟩) (l.length + 1) cap2) g') := hide (by
      have h1 := EG.out
      have h2 := HLE.out
      have h3 := EK.out
      have h4 := L4.out
      have ts1 := TS.out
      have hp := AP.out.1
      have hle := hp.le
      have er := ER2.out
      have ht := HT1.out
      cases r with
      | error x =>
        exact ⟨0, by omega, .error x, l ++ [t1], hide hp, O8, hide AP.out.2, hide (Or.inr ⟨x, rfl, er, rfl⟩), hide (by rw [List.length_append, List.length_singleton]; omega)⟩
      | ok q =>
        dsimp only at ts1
        have hle : q.2 ≤ ts.length := hle
        have ht : q.1.2.1 = t1 := ht
        exact ⟨ts.length + 2 - q.2, by omega, .ok q.2, l ++ [t1], hide hp, O8, hide AP.out.2, hide (Or.inl ⟨q.2, f, rfl, by rw [er, ← ht]; rfl, by omega, rfl⟩), hide (by rw [List.length_append, List.length_singleton]; omega)⟩)
     clear AP O8 hown hgrow hgat hglt H7 G7 O7
     go_wp2_with fail
     obtain ⟨g', hg', HI⟩ := I8.out
     have HI := hide HI
     clear I8
     go_roundg g'
     case measure => exact hg'
     case rel => exact HI
end Go.Proofs.Ytboeeaekhijboaa
namespace Go.Proofs.Ytboeeaekhijboaa
open Go.RowKit
set_option linter.unusedVariables false
set_option linter.unusedSimpArgs false

/-- a row of nodes was read, or a fault lies there -/
def TOut (w : World) (rb pb : Nat) (v : Value) (ts : List Tok) (s : ByteArray) (o : Nat) (r : Rz Ns) (e : Ending) (w' : World) : Prop :=
 (∃ u l, e = .returned u ∧ Ts w' (fun x => w.heap.size ≤ x ∧ x < w'.heap.size) u l ∧ ∀ q, r = .ok q → l = q.1) ∧ PS w' rb pb v ts s o r.st ∧ Chg (Pw rb pb) w w'
theorem terms_law (ts : List Tok) (s : ByteArray) (sg : ByteArray) (st : St) (a b : Nd)
  (ha : ∀ q, st.bind (termS ts s 60) = .ok q → a = q.1) (hb : ∀ q, (((st.bind (termS ts s 60)).st.then (mustS ts s sg)).bind (termS ts s 60)) = .ok q → b = q.1) :
  (((st.bind (termS ts s 60)).st.then (mustS ts s sg)).bind (termS ts s 60)).st = (st.bind (termsS ts s sg)).st ∧ ∀ q, st.bind (termsS ts s sg) = .ok q → twoN a b = q.1 := by
 cases st with
 | error x => exact ⟨rfl, fun q hq => by cases hq⟩
 | ok k =>
   simp only [St.bind, termsS] at ha hb ⊢
   generalize termS ts s 60 = f at *
   cases e1 : f k with
   | error x => exact ⟨rfl, fun q hq => by cases hq⟩
   | ok q1 =>
     rw [e1] at ha hb
     have ea := ha q1 rfl
     simp only [Rz.bind, Rz.st, St.then] at hb ⊢
     cases e2 : mustS ts s sg q1.2 with
     | error x => exact ⟨rfl, fun q hq => by cases hq⟩
     | ok k2 =>
       rw [e2] at hb
       simp only [St.bind] at hb ⊢
       cases e3 : f k2 with
       | error x => exact ⟨rfl, fun q hq => by cases hq⟩
       | ok q3 =>
         rw [e3] at hb
         have eb := hb q3 rfl
         exact ⟨rfl, fun q hq => by cases hq; rw [ea, eb]⟩

set_option maxRecDepth 100000 in
set_option maxHeartbeats 8000000 in
theorem terms_any {rb pb : Nat} {v : Value} {ts : List Tok} {s : ByteArray} {st : St} (sg : ByteArray) {w : World} (h : PS w rb pb v ts s 0 st) :
  Calls Try.prog 55 #[.pointer (some ⟨pb, 0, none⟩), .string sg] w (TOut w rb pb v ts s 0 (st.bind (termsS ts s sg))) := by
 have TE := hide (fun st w h => term_any (rb := rb) (pb := pb) (v := v) (ts := ts) (s := s) 60 0 rfl st w h)
 have HP := hide h
 have HL := hide h.lt
 have LAW := hide (fun a b ha hb => terms_law ts s sg st a b ha hb)
 have T1 := hide (TE.out st w h)
 clear h
 generalize st.bind (termsS ts s sg) = R at *
 generalize termS ts s 60 = f at *
 generalize st.bind f = r1 at *
 go_enter Try.func55, Try.ntmps55
 go_wp2_with fail
 refine T1.out.mono ?_
 rintro e v5 ⟨⟨u, a, rfl, ha, hqa⟩, h5, g5⟩
 obtain ⟨aa, ac, rfl, _⟩ := id ha
 obtain ⟨a0, a1, a2, a3⟩ := a
 dsimp only [Nd.kind, Nd.word, Nd.at, Nd.kids] at *
 have GE := al v5 (.cells #[.int .i64 a0, .string a1, .int .i64 a2, .slice aa a3.len ac] 51)
 have E5 := hide (blk_new v5 (.cells #[.int .i64 a0, .string a1, .int .i64 a2, .slice aa a3.len ac] 51))
 have H5 := hide (h5.chg GE (fun _ _ h => h))
 have G5 := hide (g5.trans GE.none)
 obtain ⟨E, hE⟩ : ∃ E, v5.heap.size = E := ⟨_, rfl⟩
 have EL : Hid (rb < pb ∧ pb < w.heap.size ∧ w.heap.size ≤ E) := hide ⟨HL.out.1, HL.out.2, by have := g5.size; omega⟩
 have NA := hide ((ha.chg GE (fun _ _ h => h)).up (Y := fun x => w.heap.size ≤ x ∧ x < E) (fun x hx => ⟨hx.1, by omega⟩))
 rw [hE] at E5
 clear h5 g5 GE T1 ha
 have MD := hide (must_any sg H5.out)
 have LAW2 := hide (fun b hb => LAW.out (a0, a1, a2, a3) b hqa hb)
 clear LAW hqa
 generalize r1.st.then (mustS ts s sg) = st4 at *
 go_wp2_with fail
 clear hE
 generalize v5.alloc (.cells #[.int .i64 a0, .string a1, .int .i64 a2, .slice aa a3.len ac] 51) = v6 at *
 refine MD.out.mono ?_
 rintro e v7 ⟨rfl, h7, g7⟩
 have H7 := hide (h7.chg (Chg.refl (fun _ => False) v7).drew (fun _ _ h => h))
 have E7 := hide (g7.blkS (by have := EL.out; rintro (e | e) <;> omega) E5.out)
 have G7 := hide ((G5.out.trans g7).drew)
 have NA7 := hide ((NA.out.chg g7 (fun x hx e => by have := hx.1; have := EL.out; rcases e with e | e <;> omega)).chg (Chg.refl (fun _ => False) v7).drew (fun _ _ h => h))
 clear h7 g7 MD NA
 have T2 := hide (TE.out st4 v7.drew H7.out)
 generalize st4.bind f = r5 at *
 have p0 := blk_cell E7.out 0
 have p1 := blk_cell E7.out 1
 have p2 := blk_cell E7.out 2
 have p3 := blk_cell E7.out 3
 simp only [gets] at p0 p1 p2 p3
 go_wp2_with fail
 refine wp_region_held_drew (S := (fun w' => w'.cell? ⟨E, 0, none⟩ = some (.int .i64 a0) ∧ w'.cell? ⟨E, 1, none⟩ = some (.string a1) ∧ w'.cell? ⟨E, 2, none⟩ = some (.int .i64 a2) ∧ w'.cell? ⟨E, 3, none⟩ = some (.slice aa a3.len ac))) (by kernel_rfl) (by go_keep) (fun hHeld => ?_)
 first
  | (refine tku 0 ?_)
  | (refine tkl 0 ?_ ?_ ?_
     rotate_left
     (intro w hSw
      (try dsimp only at hSw)
      (go_simp <;> with_reducible rfl)))
 try simp only [Act.put, puts]
 first
  | (refine tku 1 ?_)
  | (refine tkl 1 ?_ ?_ ?_
     rotate_left
     (intro w hSw
      (try dsimp only at hSw)
      (go_simp <;> with_reducible rfl)))
 try simp only [Act.put, puts]
 refine rd1 2 (fun K hK => ?_)
 go_simp
 refine T2.out.mono ?_
 rintro e v8 ⟨⟨u, m, rfl, hm, hqm⟩, h8, g8⟩
 obtain ⟨ma, mc, rfl, _⟩ := id hm
 have LW := hide (LAW2.out m hqm)
 clear LAW2 hqm
 obtain ⟨m0, m1, m2, m3⟩ := m
 dsimp only [Nd.kind, Nd.word, Nd.at, Nd.kids] at *
 have hv7 : v7.drew.heap.size = v7.heap.size := rfl
 have E8 := hide (g8.blkS (by have := EL.out; rintro (e | e) <;> omega) E7.out)
 have GF := al v8 (.cells #[.int .i64 a0, .string a1, .int .i64 a2, .slice aa a3.len ac, .int .i64 m0, .string m1, .int .i64 m2, .slice ma m3.len mc] 51)
 have BF := hide (blk_new v8 (.cells #[.int .i64 a0, .string a1, .int .i64 a2, .slice aa a3.len ac, .int .i64 m0, .string m1, .int .i64 m2, .slice ma m3.len mc] 51))
 have H9 := hide (h8.chg GF (fun _ _ h => h))
 rw [LW.out.1] at H9
 have E9 := hide (GF.blk E8.out)
 have G9 := hide ((G7.out.trans g8).trans GF.none)
 have hE7 := olt E7.out
 have hE8 := olt E8.out
 have NA := ((NA7.out.chg g8 (fun x hx e => by have := hx.1; have := EL.out; rcases e with e | e <;> omega)).chg GF (fun _ _ h => h)).up (Y := fun x => w.heap.size ≤ x ∧ x < (v8.alloc (.cells #[.int .i64 a0, .string a1, .int .i64 a2, .slice aa a3.len ac, .int .i64 m0, .string m1, .int .i64 m2, .slice ma m3.len mc] 51)).heap.size) (fun x hx => ⟨hx.1, by simp only [al_sz]; omega⟩)
 have NB := (hm.chg GF (fun _ _ h => h)).up (Y := fun x => w.heap.size ≤ x ∧ x < (v8.alloc (.cells #[.int .i64 a0, .string a1, .int .i64 a2, .slice aa a3.len ac, .int .i64 m0, .string m1, .int .i64 m2, .slice ma m3.len mc] 51)).heap.size) (fun x hx => ⟨by have := EL.out; omega, by simp only [al_sz]; omega⟩)
 obtain ⟨_, _, ea, NA⟩ := NA
 obtain ⟨_, _, eb, NB⟩ := NB
 have N9 := hide (ts_two (X := fun x => w.heap.size ≤ x ∧ x < (v8.alloc (.cells #[.int .i64 a0, .string a1, .int .i64 a2, .slice aa a3.len ac, .int .i64 m0, .string m1, .int .i64 m2, .slice ma m3.len mc] 51)).heap.size) (g := v8.heap.size) (n := (a0, a1, a2, a3)) (m := (m0, m1, m2, m3)) ⟨by have := EL.out; omega, by simp only [al_sz]; omega⟩ BF.out (by cases ea; exact NA) (by cases eb; exact NB))
 have y0 := blk_cell E8.out 0
 have y1 := blk_cell E8.out 1
 have y2 := blk_cell E8.out 2
 have y3 := blk_cell E8.out 3
 have z0 := blk_cell E9.out 0
 have z1 := blk_cell E9.out 1
 have z2 := blk_cell E9.out 2
 have z3 := blk_cell E9.out 3
 simp only [gets] at y0 y1 y2 y3 z0 z1 z2 z3
 clear h8 g8 GF hm NA NB ea eb hv7 hE7 hE8
 go_simp
 refine hK.out _ _ ⟨y0, y1, y2, y3⟩ (fun hHeld => ?_)
 clear hK K
 try simp only [Act.put, puts]
 refine rd1 3 (fun K hK => ?_)
 go_simp
 refine hK.out _ _ ⟨z0, z1, z2, z3⟩ (fun hHeld => ?_)
 clear hK K
 try simp only [Act.put, puts]
 first
  | (refine tku 4 ?_)
  | (refine tkl 4 ?_ ?_ ?_
     rotate_left
     (intro w hSw
      (try dsimp only at hSw)
      (go_simp <;> with_reducible rfl)))
 try simp only [Act.put, puts]
 refine wpAnyH_done (by kernel_rfl) ?_ _
 go_wp2_with fail
 go_ret
 exact ⟨⟨_, _, rfl, N9.out, LW.out.2⟩, H9.out, G9.out⟩

theorem idxFrom_bd (x : ByteArray) : ∀ (zs : List ByteArray) (i : Nat), Lib.idxFromS zs x i = -1 ∨ ((i : Int) ≤ Lib.idxFromS zs x i ∧ Lib.idxFromS zs x i < (i + zs.length : Nat))
 | [], i => Or.inl rfl
 | z :: zs, i => by
   have ih := idxFrom_bd x zs (i + 1)
   unfold Lib.idxFromS
   split
   ·
    exact Or.inr ⟨Int.le_refl _, by simp only [List.length_cons]; omega⟩
   ·
    rcases ih with h | ⟨h1, h2⟩
    ·
     exact Or.inl h
    ·
     exact Or.inr ⟨by omega, by simp only [List.length_cons]; omega⟩
theorem idx_bd (zs : List ByteArray) (x : ByteArray) : -1 ≤ Lib.idxOfS zs x ∧ Lib.idxOfS zs x < zs.length := by
 unfold Lib.idxOfS
 rcases idxFrom_bd x zs 0 with h | ⟨h1, h2⟩
 ·
  rw [h]; exact ⟨Int.le_refl _, by omega⟩
 ·
  exact ⟨by omega, by omega⟩
theorem begins_kind (x : ByteArray) : Lib.idxOfS kinds x + 1 = kindOf x := rfl
set_option maxRecDepth 100000 in
theorem begins_any (x : ByteArray) (w : World) : Calls Try.prog 51 #[.string x] w fun e w' => e = .returned (.int .i64 (kindOf x)) ∧ Chg (fun _ => False) w w' := by
 have B := blk_new w (.cells (kinds.map Value.string).toArray 9)
 have IX := hide (Try.slices_Index_string w.heap.size 0 12 12 kinds x (w.alloc (.cells (kinds.map Value.string).toArray 9)) (by decide) (by decide) (fun j hj => by
  have h : j < 12 := hj
  have e := blk_cell B j
  rw [Nat.zero_add, e]
  simp [List.getD, show j < kinds.length from hj]))
 have hk : kinds.take 12 = kinds := rfl
 rw [hk] at IX
 have hb1 : -1 ≤ Lib.idxOfS kinds x := (idx_bd kinds x).1
 have hb2 : Lib.idxOfS kinds x < 12 := (idx_bd kinds x).2
 have HR : Hid (kindOf x = Lib.idxOfS kinds x + 1) := rfl
 clear hk B
 generalize Lib.idxOfS kinds x = i at *
 have G := hide (al w (.cells (kinds.map Value.string).toArray 9))
 simp only [kinds, List.map_cons, List.map_nil] at IX G
 go_enter Try.func51, Try.ntmps51
 go_wp2_with fail
 refine IX.out.mono ?_
 rintro e w2 ⟨rfl, rfl⟩
 go_wp2_with fail
 go_ret
 exact ⟨by rw [HR.out]; rfl, G.out⟩
end Go.Proofs.Ytboeeaekhijboaa
