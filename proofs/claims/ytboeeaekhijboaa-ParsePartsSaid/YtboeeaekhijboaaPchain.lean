/- The program's parser: chain, terms, begins. -/
import Derived.Test.YtboeeaekhijboaaPwords2
namespace Go.Proofs.Ytboeeaekhijboaa
open Go.RowKit
set_option linter.unusedVariables false
set_option linter.unusedSimpArgs false

theorem chain_st (ts : List Tok) (s : ByteArray) (st : St) (x1 x2 : ByteArray) (hx : (tokOf (st.bind (tokS ts s 1))).2.1 = x1) (hy : (tokOf (((st.bind (tokS ts s 1)).st.then (mustS ts s bGt)).bind (tokS ts s 1))).2.1 = x2) :
    (∃ k f, (((st.bind (tokS ts s 1)).st.then (mustS ts s bGt)).bind (tokS ts s 1)).st = .ok k ∧ st.bind (chainS ts s) = moreC ts s f [x1, x2] k ∧ ts.length + 1 - k ≤ f) ∨
      (∃ x, (((st.bind (tokS ts s 1)).st.then (mustS ts s bGt)).bind (tokS ts s 1)).st = .error x ∧ st.bind (chainS ts s) = .error x) := by
  cases st with
  | error x => exact Or.inr ⟨x, rfl, rfl⟩
  | ok k =>
    simp only [St.bind, chainS] at hx hy ⊢
    cases e : tokS ts s 1 k with
    | error x => exact Or.inr ⟨x, rfl, rfl⟩
    | ok q =>
      rw [e] at hx hy
      simp only [Rz.bind, Rz.st, St.then] at hx hy ⊢
      cases e2 : mustS ts s bGt q.2 with
      | error x => exact Or.inr ⟨x, rfl, rfl⟩
      | ok k2 =>
        rw [e2] at hy
        simp only [St.bind] at hx hy ⊢
        cases e3 : tokS ts s 1 k2 with
        | error x => exact Or.inr ⟨x, rfl, rfl⟩
        | ok q3 =>
          rw [e3] at hy
          exact Or.inl ⟨q3.2, ts.length + 1 - q3.2, rfl, by simp only [Rz.bind]; rw [← hx, ← hy]; rfl, Nat.le_refl _⟩

set_option maxRecDepth 100000 in
set_option maxHeartbeats 8000000 in
theorem chain_any {rb pb : Nat} {v : Value} {ts : List Tok} {s : ByteArray} {o : Nat} {st : St} {w : World} (h : PS w rb pb v ts s o st) :
    Calls Try.prog 56 #[.pointer (some ⟨pb, 0, none⟩)] w (WOut w rb pb v ts s o (st.bind (chainS ts s))) := by
  obtain ⟨i0, hi0, hz0, hz1, hz2⟩ := info_parts info9
  have TK := hide (word_any h)
  have HL := hide h.lt
  have HN := hide h.env.len
  have LAW := hide (fun x1 x2 hx hy => chain_st ts s st x1 x2 hx hy)
  clear h
  generalize st.bind (chainS ts s) = R at *
  generalize st.bind (tokS ts s 1) = r1 at *
  obtain ⟨x1, hx1⟩ : ∃ x1, (tokOf r1).2.1 = x1 := ⟨_, rfl⟩
  rw [hx1] at TK
  have LAW := hide (fun x2 hy => LAW.out x1 x2 hx1 hy)
  clear hx1
  go_enter Try.func56, Try.ntmps56
  go_wp2_with fail
  refine TK.out.mono ?_
  rintro e w2 ⟨rfl, h2, g2⟩
  have GA := al w2 (.cells #[.string x1] 9)
  have H3 := hide (h2.chg GA (fun _ _ h => h))
  have G3 := hide (g2.trans GA.none)
  have O3 := hide (own_one (base := w.heap.size) (blk_new w2 (.cells #[.string x1] 9)) g2.size)
  clear h2 g2 GA TK
  go_wp2_with fail
  generalize w2.alloc (.cells #[.string x1] 9) = w3 at *
  generalize (Value.slice (some ⟨w2.heap.size, 0, none⟩) 1 1) = u3 at *
  have MU := hide (must_any bGt H3.out)
  generalize r1.st.then (mustS ts s bGt) = st2 at *
  refine MU.out.mono ?_
  rintro e w4 ⟨rfl, h4, g4⟩
  have O4 := hide (own_chgS O3.out g4 (fun x hx e => by have := HL.out; rcases e with e | e <;> omega))
  have G4 := hide (G3.out.trans g4)
  have WD := hide (word_any h4)
  clear h4 g4 MU H3 G3 O3
  generalize st2.bind (tokS ts s 1) = r3 at *
  obtain ⟨x2, hx2⟩ : ∃ x2, (tokOf r3).2.1 = x2 := ⟨_, rfl⟩
  rw [hx2] at WD
  have LAW := hide (LAW.out x2 hx2)
  clear hx2
  generalize r3.st = st3 at *
  go_wp2_with fail
  refine WD.out.mono ?_
  rintro e w5 ⟨rfl, h5, g5⟩
  obtain ⟨l, hl⟩ : ∃ l : List ByteArray, l = [x1] := ⟨_, rfl⟩
  rw [← hl] at O4
  have hll : l.length ≤ 20004 := by rw [hl]; simp
  have HLL := hide hl
  clear hl
  have GA := al w5 (.cells #[.string x2] 9)
  have H7 := hide (h5.chg GA (fun _ _ h => h))
  have O7 := hide (own_chgS (own_chgS O4.out g5 (fun x hx e => by have := HL.out; rcases e with e | e <;> omega)) GA (fun _ _ h => h))
  have G7 := hide ((G4.out.trans g5).trans GA.none)
  have N7 := hide (World.news_of_block (cs := #[.string x2]) (t := 9) (fr := (0, 0)) (heap_alloc_new w5 _))
  have P7 : w.heap.size ≤ (w5.alloc (.cells #[.string x2] 9)).heap.size := by have := G7.out.size; exact this
  clear h5 g5 GA WD O4 G4
  go_wp2_with (at_builtin; refine wpList_append_lies _ rfl _ _ 39 rfl w.heap.size 9 i0 (.string ⟨#[]⟩) 1 16 Try.underlying39 hi0 hz0 hz1 hz2 rfl (by decide) _ l.length (l.map .string) rfl O7.out ⟨w5.heap.size, 0, none⟩ 1 1 [.string x2] rfl rfl N7.out (by simp [Value.oneCell']) (by omega) (by simp [maxLen]; omega) (by omega) P7 (w5.heap.size + 1) (by simp) ?_; intro gg cap2 w6 hown hgrow hgat hglt)
  have AP := hide (WInv.append H7.out G7.out O7.out HL.out.2 hgrow)
  have O8 : Hid (w6.ownsRow w.heap.size 9 1 (.slice (some ⟨gg, 0, none⟩) (l.length + 1) cap2) (l ++ [x2]).length ((l ++ [x2]).map .string)) := hide (by rw [List.length_append, List.map_append]; exact hown)
  have I6 : Hid (∃ g, WInv w w6 rb pb v ts s o (moreC ts s) R (.slice (some ⟨gg, 0, none⟩) (l.length + 1) cap2) g) := hide (by
    have e2 : l ++ [x2] = [x1, x2] := by rw [HLL.out]; rfl
    rcases LAW.out with ⟨k, f, e, e3, hf⟩ | ⟨x, e, e3⟩
    · have hp := AP.out.1
      rw [e] at hp
      have hle : k ≤ ts.length := hp.le
      exact ⟨ts.length + 2 - k, .ok k, l ++ [x2], hide hp, O8, hide AP.out.2, hide (Or.inl ⟨k, f, rfl, by rw [e2]; exact e3, hf, rfl⟩), hide (by rw [e2]; simp; omega)⟩
    · have hp := AP.out.1
      rw [e] at hp
      exact ⟨0, .error x, l ++ [x2], hide hp, O8, hide AP.out.2, hide (Or.inr ⟨x, rfl, e3, rfl⟩), hide (by rw [e2]; simp)⟩)
  clear AP O8 hown hgrow hgat hglt H7 G7 O7 LAW
  obtain ⟨g0, I0⟩ := I6.out
  have I0 := hide I0
  clear I6
  go_wp2_with fail
  generalize (Value.slice (some ⟨gg, 0, none⟩) (l.length + 1) cap2) = u4 at *
  go_loopg [3] g0 (fun g u wr => Hid (WInv w wr rb pb v ts s o (moreC ts s) R u g))
  case atStart => exact I0
  case round =>
    have hI := hrel
    clear I0 hrel P7 hll HLL
    rename_i u
    obtain ⟨st, l, H4, O4, G4, J4, L4⟩ := hI.out
    clear hI
    have NX := hide (next_any bGt H4.out)
    cases st with
    | error x =>
      have QF : Hid (R.st = .error x ∧ ∀ q, R = .ok q → l = q.1) := hide (by
        rcases J4.out with ⟨k, f, e0, -⟩ | ⟨y, e0, e, -⟩
        · cases e0
        · cases e0
          rw [e]
          exact ⟨rfl, fun q hq => by cases hq⟩)
      have nb : nextB ts s (.error x) bGt = false := rfl
      have ns : nextSt ts s (.error x) bGt = .error x := rfl
      rw [nb, ns] at NX
      clear J4 nb ns
      go_wp2_with fail
      refine NX.out.mono ?_
      rintro e w5 ⟨rfl, h5, g5⟩
      have H5 : Hid (PS w5 rb pb v ts s o R.st) := hide (by rw [QF.out.1]; exact h5)
      have O5 := own_chgS O4.out g5 (fun x hx e => by have := HL.out; omega)
      have W5 := hide (sw_own (X := fun x => w.heap.size ≤ x ∧ x < w5.heap.size) O5 (fun r e => World.ownsRow.lt O5 r e))
      have G5 := hide (G4.out.trans (g5.mono (T := Pw rb pb) (fun x _ h => Or.inr h)))
      clear h5 g5 O5
      go_wp2_with fail
      go_ret
      exact ⟨⟨_, l, rfl, W5.out, QF.out.2⟩, H5.out, G5.out⟩
    | ok k =>
      have HLE : Hid (k ≤ ts.length) := hide H4.out.le
      obtain ⟨f, ER, EK, EG⟩ : ∃ f, Hid (R = moreC ts s (f + 1) l k) ∧ Hid (ts.length + 1 - k ≤ f + 1) ∧ Hid (gk = ts.length + 2 - k) := by
        have := HLE.out
        rcases J4.out with ⟨k', f, e0, e, hf, hg⟩ | ⟨y, e0, e, -⟩
        · cases e0
          obtain ⟨f', rfl⟩ : ∃ f', f = f' + 1 := ⟨f - 1, by omega⟩
          exact ⟨f', e, hf, hg⟩
        · cases e0
      clear J4
      cases hb : eatB ts s bGt k
      · have nb : nextB ts s (.ok k) bGt = false := hb
        have ns : nextSt ts s (.ok k) bGt = .ok k := by simp [nextSt, hb]
        have ER2 : Hid (R = .ok (l, k)) := hide (by rw [ER.out, moreC, if_neg (by rw [hb]; decide)])
        rw [nb, ns] at NX
        clear nb ns hb ER
        go_wp2_with fail
        refine NX.out.mono ?_
        rintro e w5 ⟨rfl, h5, g5⟩
        have H5 : Hid (PS w5 rb pb v ts s o R.st) := hide (by rw [ER2.out]; exact h5)
        have O5 := own_chgS O4.out g5 (fun x hx e => by have := HL.out; omega)
        have W5 := hide (sw_own (X := fun x => w.heap.size ≤ x ∧ x < w5.heap.size) O5 (fun r e => World.ownsRow.lt O5 r e))
        have G5 := hide (G4.out.trans (g5.mono (T := Pw rb pb) (fun x _ h => Or.inr h)))
        clear h5 g5 O5
        go_wp2_with fail
        go_ret
        exact ⟨⟨_, l, rfl, W5.out, fun q hq => by rw [ER2.out] at hq; cases hq; rfl⟩, H5.out, G5.out⟩
      · have nb : nextB ts s (.ok k) bGt = true := hb
        have ns : nextSt ts s (.ok k) bGt = .ok (k + 1) := by simp [nextSt, hb]
        have ER2 : Hid (R = (tokS ts s 1 (k + 1)).bind fun t k1 => moreC ts s f (l ++ [t.2.1]) k1) := hide (by rw [ER.out, moreC, if_pos hb])
        have TS := hide (tokS_lt (ts := ts) (s := s) (kind := 1) (k := k + 1) (by decide) (eatB_lt hb))
        rw [nb, ns] at NX
        clear nb ns hb ER
        go_wp2_with fail
        refine NX.out.mono ?_
        rintro e w5 ⟨rfl, h5, g5⟩
        have WD := hide (word_any h5)
        have WD : Hid (Calls Try.prog 57 #[.pointer (some ⟨pb, 0, none⟩)] w5 fun e w' => e = .returned (.string (tokOf (tokS ts s 1 (k + 1))).2.1) ∧ PS w' rb pb v ts s o (tokS ts s 1 (k + 1)).st ∧ Chg (Pw rb pb) w5 w') := WD
        have O5 := hide (own_chgS O4.out g5 (fun x hx e => by have := HL.out; omega))
        have G5 := hide (G4.out.trans (g5.mono (T := Pw rb pb) (fun x _ h => Or.inr h)))
        clear h5 g5 O4 NX H4 G4
        generalize tokS ts s 1 (k + 1) = r at *
        obtain ⟨t1, ht1⟩ : ∃ t1, (tokOf r).2.1 = t1 := ⟨_, rfl⟩
        rw [ht1] at WD
        have HT1 := hide ht1
        clear ht1
        go_wp2_with fail
        refine WD.out.mono ?_
        rintro e w6 ⟨rfl, h6, g6⟩
        have GA := al w6 (.cells #[.string t1] 9)
        have H7 := hide (h6.chg GA (fun _ _ h => h))
        have O7 := hide (own_chgS (own_chgS O5.out g6 (fun x hx e => by have := HL.out; rcases e with e | e <;> omega)) GA (fun _ _ h => h))
        have G7 := hide ((G5.out.trans g6).trans GA.none)
        have N7 := hide (World.news_of_block (cs := #[.string t1]) (t := 9) (fr := (0, 0)) (heap_alloc_new w6 _))
        have P7 : w.heap.size ≤ (w6.alloc (.cells #[.string t1] 9)).heap.size := by have := G7.out.size; exact this
        have hll : l.length ≤ 20004 := by have := L4.out; have := HN.out; omega
        clear h6 g6 GA WD O5
        go_wp2_with (at_builtin; refine wpList_append_lies _ rfl _ _ 39 rfl w.heap.size 9 i0 (.string ⟨#[]⟩) 1 16 Try.underlying39 hi0 hz0 hz1 hz2 rfl (by decide) _ l.length (l.map .string) rfl O7.out ⟨w6.heap.size, 0, none⟩ 1 1 [.string t1] rfl rfl N7.out (by simp [Value.oneCell']) (by omega) (by simp [maxLen]; omega) (by omega) P7 (w6.heap.size + 1) (by simp) ?_; intro gg cap2 w8 hown hgrow hgat hglt)
        have AP := hide (WInv.append H7.out G7.out O7.out HL.out.2 hgrow)
        have O8 : Hid (w8.ownsRow w.heap.size 9 1 (.slice (some ⟨gg, 0, none⟩) (l.length + 1) cap2) (l ++ [t1]).length ((l ++ [t1]).map .string)) := hide (by rw [List.length_append, List.map_append]; exact hown)
        have I8 : Hid (∃ g', g' < gk ∧ WInv w w8 rb pb v ts s o (moreC ts s) R (.slice (some ⟨gg, 0, none⟩) (l.length + 1) cap2) g') := hide (by
          have h1 := EG.out
          have h2 := HLE.out
          have h3 := EK.out
          have h4 := L4.out
          have ts1 := TS.out
          have hp := AP.out.1
          have hle := hp.le
          have er := ER2.out
          have ht := HT1.out
          cases r with
          | error x =>
            exact ⟨0, by omega, .error x, l ++ [t1], hide hp, O8, hide AP.out.2, hide (Or.inr ⟨x, rfl, er, rfl⟩), hide (by rw [List.length_append, List.length_singleton]; omega)⟩
          | ok q =>
            dsimp only at ts1
            have hle : q.2 ≤ ts.length := hle
            have ht : q.1.2.1 = t1 := ht
            exact ⟨ts.length + 2 - q.2, by omega, .ok q.2, l ++ [t1], hide hp, O8, hide AP.out.2, hide (Or.inl ⟨q.2, f, rfl, by rw [er, ← ht]; rfl, by omega, rfl⟩), hide (by rw [List.length_append, List.length_singleton]; omega)⟩)
        clear AP O8 hown hgrow hgat hglt H7 G7 O7
        go_wp2_with fail
        obtain ⟨g', hg', HI⟩ := I8.out
        have HI := hide HI
        clear I8
        go_roundg g'
        case measure => exact hg'
        case rel => exact HI
end Go.Proofs.Ytboeeaekhijboaa
