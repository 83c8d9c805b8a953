/- The program's parser: number, named, counted, begins. The program's parser: words, chain. -/
import Derived.Test.YtboeeaekhijboaaPispec
import Derived.Deep.LoopGhost
import Derived.Deep.AppendLies
namespace Go.Proofs.Ytboeeaekhijboaa
open Go.RowKit
set_option linter.unusedVariables false
set_option linter.unusedSimpArgs false

/-- The value is a row of words. -/
def Sw (w : World) (X : Nat → Prop) (v : Value) (l : List ByteArray) : Prop :=
 ∃ a cap, v = .slice a l.length cap ∧ (l = [] ∨ ∃ g off, a = some ⟨g, off, none⟩ ∧ X g ∧ ∀ i (h : i < l.length), w.cell? ⟨g, off + i, none⟩ = some (.string l[i]))
theorem Sw.chg {w w' : World} {X : Nat → Prop} {v : Value} {l : List ByteArray} (h : Sw w X v l) {S : Nat → Prop} (g : Chg S w w') (hn : ∀ x, X x → ¬ S x) : Sw w' X v l := by
 obtain ⟨a, cap, e, h1⟩ := h
 refine ⟨a, cap, e, ?_⟩
 rcases h1 with h1 | ⟨b, off, e1, h2, h3⟩
 ·
  exact Or.inl h1
 ·
  exact Or.inr ⟨b, off, e1, h2, fun i hi => g.cell (hn b h2) (h3 i hi)⟩
theorem Sw.up {w : World} {X Y : Nat → Prop} {v : Value} {l : List ByteArray} (h : Sw w X v l) (hb : ∀ x, X x → Y x) : Sw w Y v l := by
 obtain ⟨a, cap, e, h1⟩ := h
 refine ⟨a, cap, e, ?_⟩
 rcases h1 with h1 | ⟨b, off, e1, h2, h3⟩
 ·
  exact Or.inl h1
 ·
  exact Or.inr ⟨b, off, e1, hb b h2, h3⟩
theorem Sw.nil (w : World) (X : Nat → Prop) : Sw w X (.slice none 0 0) [] := ⟨none, 0, rfl, Or.inl rfl⟩
theorem sw_one {w : World} {X : Nat → Prop} {g : Nat} {x : ByteArray} {T : TypeId} (h : w.heap[g]? = some (.cells #[.string x] T)) (hg : X g) : Sw w X (.slice (some ⟨g, 0, none⟩) 1 1) [x] :=
 ⟨_, _, rfl, Or.inr ⟨g, 0, rfl, hg, fun i hi => by
  match i, hi with
  | 0, _ => exact blk_cell h 0⟩⟩
theorem sw_two {w : World} {X : Nat → Prop} {g : Nat} {x y : ByteArray} {T : TypeId} (h : w.heap[g]? = some (.cells #[.string x, .string y] T)) (hg : X g) : Sw w X (.slice (some ⟨g, 0, none⟩) 2 2) [x, y] :=
 ⟨_, _, rfl, Or.inr ⟨g, 0, rfl, hg, fun i hi => by
  match i, hi with
  | 0, _ => exact blk_cell h 0
  | 1, _ => exact blk_cell h 1⟩⟩
/-- an own row of words is a row of words -/
theorem sw_own {w : World} {base : Nat} {v : Value} {l : List ByteArray} (h : w.ownsRow base 9 1 v l.length (l.map .string)) {X : Nat → Prop} (hX : ∀ r, v.ownBlock = some r → X r) : Sw w X v l := by
 obtain ⟨h1, h2⟩ := id h
 rcases h2 with ⟨rfl, h3⟩ | ⟨g, cap, cur, rfl, h3⟩
 ·
  have : l = [] := List.eq_nil_of_length_eq_zero h3
  subst this
  exact Sw.nil _ _
 ·
  refine ⟨_, cap, rfl, Or.inr ⟨g, 0, rfl, hX g rfl, fun i hi => ?_⟩⟩
  have hc := World.ownsRow.cells h (g := g) rfl i (.string l[i]) (by simp [hi])
  rw [add_at] at hc
  rw [Nat.zero_add]; exact hc

/-- words were read, or a fault lies there -/
def WOut (w : World) (rb pb : Nat) (v : Value) (ts : List Tok) (s : ByteArray) (o : Nat) (r : Rz (List ByteArray)) (e : Ending) (w' : World) : Prop :=
 (∃ u l, e = .returned u ∧ Sw w' (fun x => w.heap.size ≤ x ∧ x < w'.heap.size) u l ∧ ∀ q, r = .ok q → l = q.1) ∧ PS w' rb pb v ts s o r.st ∧ Chg (Pw rb pb) w w'
/-- a number was read, or a fault lies there -/
def NOut (w : World) (rb pb : Nat) (v : Value) (ts : List Tok) (s : ByteArray) (o : Nat) (r : Rz Int) (e : Ending) (w' : World) : Prop :=
 (∃ n : Int, e = .returned (.int .i64 n) ∧ ∀ q, r = .ok q → n = q.1) ∧ PS w' rb pb v ts s o r.st ∧ Chg (Pw rb pb) w w'

def numS (ts : List Tok) (s : ByteArray) (k : Nat) : Rz Int := (tokS ts s 2 k).bind fun t k1 => .ok (numV t, k1)
theorem num_law (ts : List Tok) (s : ByteArray) (st : St) : (st.bind (tokS ts s 2)).st = (st.bind (numS ts s)).st ∧ ∀ q, st.bind (numS ts s) = .ok q → numV (tokOf (st.bind (tokS ts s 2))) = q.1 := by
 cases st with
 | error x => exact ⟨rfl, fun q hq => by cases hq⟩
 | ok k =>
   simp only [St.bind, numS]
   cases tokS ts s 2 k with
   | error x => exact ⟨rfl, fun q hq => by cases hq⟩
   | ok p => exact ⟨rfl, fun q hq => by cases hq; rfl⟩

set_option maxRecDepth 100000 in
theorem number_any {rb pb : Nat} {v : Value} {ts : List Tok} {s : ByteArray} {o : Nat} {st : St} {w : World} (h : PS w rb pb v ts s o st) :
  Calls Try.prog 59 #[.pointer (some ⟨pb, 0, none⟩)] w (NOut w rb pb v ts s o (st.bind (numS ts s))) := by
 have TK := hide (token_any 2 (by decide) h)
 have LAW := hide (num_law ts s st)
 have HTX := hide h.env.tx
 have HT : Hid ((tokOf (st.bind (tokS ts s 2))).2.1.size ≤ 1000000) := hide (by
  cases st with
  | error x => exact Nat.zero_le _
  | ok k =>
    show (tokOf (tokS ts s 2 k)).2.1.size ≤ 1000000
    unfold tokS
    split
    ·
     rename_i h2
     have hlt := tokAt_len (s := s) (show (tokAt ts s k 0).1 ≠ 4 by rw [h2]; decide)
     have ht : tokAt ts s k 0 = ts[k] := tokAt_in (by omega) (by omega) hlt
     show (tokAt ts s k 0).2.1.size ≤ 1000000
     rw [ht]
     exact HTX.out _ (List.getElem_mem hlt)
    ·
     exact Nat.zero_le _)
 clear h HTX
 generalize st.bind (numS ts s) = R at *
 generalize st.bind (tokS ts s 2) = r at *
 obtain ⟨t, ht⟩ : ∃ t, tokOf r = t := ⟨_, rfl⟩
 rw [ht] at TK LAW HT
 clear ht
 obtain ⟨t0, t1, t2⟩ := t
 have etv : tokV (t0, t1, t2) = .agg #[.int .i64 t0, .string t1, .int .i64 (t2 : Int)] := rfl
 rw [etv] at TK
 obtain ⟨F, hF⟩ : ∃ F : Int × Int, F = if t0 = 2 ∧ numB t1 = true then ((valL t1.data.toList 0 : Int), 0) else (0, 1) := ⟨_, rfl⟩
 have HV : Hid (F.1 = numV (t0, t1, t2)) := hide (by rw [hF]; unfold numV; split <;> rfl)
 have VA := hide (fun w => value_any t0 t1 (t2 : Int) (by have := HT.out; dsimp only at this; omega) w F hF)
 obtain ⟨f1, f2⟩ := F
 dsimp only at VA HV
 clear etv hF
 go_enter Try.func59, Try.ntmps59
 go_wp2_with fail
 refine TK.out.mono ?_
 rintro e w2 ⟨rfl, h2, g2⟩
 have H2 := hide h2
 have G2 := hide g2
 clear h2 g2
 go_wp2_with fail
 refine (VA.out w2).mono ?_
 rintro e w3 ⟨rfl, g3⟩
 have C3 := hide (Chg.ofB g3)
 have H3 := hide (H2.out.chg C3.out (fun _ _ h => h))
 rw [LAW.out.1] at H3
 have G3 := hide (G2.out.trans C3.out.none)
 clear g3
 go_wp2_with fail
 go_ret
 exact ⟨⟨f1, rfl, fun q hq => HV.out.trans (LAW.out.2 q hq)⟩, H3.out, G3.out⟩

theorem named_law (ts : List Tok) (s : ByteArray) (st : St) : ((st.bind (tokS ts s 1)).st.then (mustS ts s bColon)) = (st.bind (namedS ts s)).st ∧ ∀ q, st.bind (namedS ts s) = .ok q → [(tokOf (st.bind (tokS ts s 1))).2.1] = q.1 := by
 cases st with
 | error x => exact ⟨rfl, fun q hq => by cases hq⟩
 | ok k =>
   simp only [St.bind, namedS]
   cases tokS ts s 1 k with
   | error x => exact ⟨rfl, fun q hq => by cases hq⟩
   | ok p =>
     simp only [Rz.bind, Rz.st, St.then]
     cases mustS ts s bColon p.2 with
     | error x => exact ⟨rfl, fun q hq => by cases hq⟩
     | ok k2 => exact ⟨rfl, fun q hq => by cases hq; rfl⟩
set_option maxRecDepth 100000 in
theorem named_any {rb pb : Nat} {v : Value} {ts : List Tok} {s : ByteArray} {o : Nat} {st : St} {w : World} (h : PS w rb pb v ts s o st) :
  Calls Try.prog 54 #[.pointer (some ⟨pb, 0, none⟩)] w (WOut w rb pb v ts s o (st.bind (namedS ts s))) := by
 have TK := hide (word_any h)
 have LAW := hide (named_law ts s st)
 have hl := hide h.lt
 clear h
 generalize st.bind (namedS ts s) = R at *
 generalize st.bind (tokS ts s 1) = r at *
 obtain ⟨x1, hx1⟩ : ∃ x1, (tokOf r).2.1 = x1 := ⟨_, rfl⟩
 rw [hx1] at TK LAW
 clear hx1
 go_enter Try.func54, Try.ntmps54
 go_wp2_with fail
 refine TK.out.mono ?_
 rintro e w2 ⟨rfl, h2, g2⟩
 have MU := hide (must_any bColon h2)
 rw [LAW.out.1] at MU
 have G2 := hide g2
 clear h2 g2
 go_wp2_with fail
 refine MU.out.mono ?_
 rintro e w3 ⟨rfl, h3, g3⟩
 have H3 := hide (h3.chg (al w3 (.cells #[.string x1] 9)) (fun _ _ h => h))
 have G3 := hide ((G2.out.trans g3).trans (al w3 (.cells #[.string x1] 9)).none)
 have W3 := hide (sw_one (X := fun x => w.heap.size ≤ x ∧ x < (w3.alloc (.cells #[.string x1] 9)).heap.size) (blk_new w3 (.cells #[.string x1] 9)) ⟨by have h1 := (G2.out.trans g3).size; omega, by simp⟩)
 clear h3 g3
 go_wp2_with fail
 go_ret
 exact ⟨⟨_, [x1], rfl, W3.out, LAW.out.2⟩, H3.out, G3.out⟩

theorem counted_law (ts : List Tok) (s : ByteArray) (st : St) (n : Int) (hn : ∀ q, st.bind (numS ts s) = .ok q → n = q.1) : ((st.bind (numS ts s)).st.then (mustS ts s bColon)) = (st.bind (countedS ts s)).st ∧ ∀ q, st.bind (countedS ts s) = .ok q → n = q.1 := by
 cases st with
 | error x => exact ⟨rfl, fun q hq => by cases hq⟩
 | ok k =>
   simp only [St.bind, countedS, numS] at hn ⊢
   cases e : tokS ts s 2 k with
   | error x => exact ⟨rfl, fun q hq => by cases hq⟩
   | ok p =>
     rw [e] at hn
     have hn1 := hn _ rfl
     simp only [Rz.bind, Rz.st, St.then]
     cases mustS ts s bColon p.2 with
     | error x => exact ⟨rfl, fun q hq => by cases hq⟩
     | ok k2 => exact ⟨rfl, fun q hq => by cases hq; exact hn1⟩
set_option maxRecDepth 100000 in
theorem counted_any {rb pb : Nat} {v : Value} {ts : List Tok} {s : ByteArray} {o : Nat} {st : St} {w : World} (h : PS w rb pb v ts s o st) :
  Calls Try.prog 58 #[.pointer (some ⟨pb, 0, none⟩)] w (NOut w rb pb v ts s o (st.bind (countedS ts s))) := by
 have TK := hide (number_any h)
 have LAW := hide (fun n hn => counted_law ts s st n hn)
 clear h
 generalize st.bind (countedS ts s) = R at *
 generalize st.bind (numS ts s) = r at *
 go_enter Try.func58, Try.ntmps58
 go_wp2_with fail
 refine TK.out.mono ?_
 rintro e w2 ⟨⟨n, rfl, hn⟩, h2, g2⟩
 have LW := hide (LAW.out n hn)
 have MU := hide (must_any bColon h2)
 rw [LW.out.1] at MU
 have G2 := hide g2
 clear h2 g2 hn LAW
 go_wp2_with fail
 refine MU.out.mono ?_
 rintro e w3 ⟨rfl, h3, g3⟩
 have H3 := hide h3
 have G3 := hide (G2.out.trans g3)
 clear h3 g3
 go_wp2_with fail
 go_ret
 exact ⟨⟨n, rfl, LW.out.2⟩, H3.out, G3.out⟩
end Go.Proofs.Ytboeeaekhijboaa
namespace Go.Proofs.Ytboeeaekhijboaa
open Go.RowKit
set_option linter.unusedVariables false
set_option linter.unusedSimpArgs false

theorem info9 : (Try.prog.info? 9).map (fun i => (i.zero, i.size, i.bytes)) = some (some (.string ⟨#[]⟩), 1, 16) := by kernel_rfl
theorem own_chgS {w w' : World} {base : Nat} {e : TypeId} {size n : Nat} {v : Value} {xs : List Value} (h : w.ownsRow base e size v n xs) {S : Nat → Prop} (g : Chg S w w') (hn : ∀ x, base ≤ x → ¬ S x) : w'.ownsRow base e size v n xs := by
 obtain ⟨h1, h2⟩ := h
 refine ⟨h1, ?_⟩
 rcases h2 with h2 | ⟨gg, cap, cur, e1, h3, h4, h5⟩
 ·
  exact Or.inl h2
 ·
  exact Or.inr ⟨gg, cap, cur, e1, h3, g.blkS (hn gg h3) h4, h5⟩
theorem own_one {w : World} {base g : Nat} {x : ByteArray} (h : w.heap[g]? = some (.cells #[.string x] 9)) (hb : base ≤ g) : w.ownsRow base 9 1 (.slice (some ⟨g, 0, none⟩) 1 1) ([x] : List ByteArray).length (([x] : List ByteArray).map .string) :=
 ⟨rfl, Or.inr ⟨g, 1, #[.string x], rfl, hb, h, Nat.le_refl _, by decide, rfl, rfl⟩⟩
theorem own_grow_chg {w1 w2 : World} {base : Nat} {e : TypeId} {size n : Nat} {v : Value} {xs : List Value} (h : w1.ownsRow base e size v n xs) (hg : w1.grownBy w2 v.ownBlock) : Chg (fun x => base ≤ x) w1 w2 :=
 (Chg.refl _ _).grown hg (fun r e => Or.inl (h.lt r e).1)

/-- what the loop over words keeps -/
def WInv (w wr : World) (rb pb : Nat) (v : Value) (ts : List Tok) (s : ByteArray) (o : Nat) (more : Nat → List ByteArray → Nat → Rz (List ByteArray)) (R : Rz (List ByteArray)) (u : Value) (g : Nat) : Prop :=
 ∃ (st : St) (l : List ByteArray), Hid (PS wr rb pb v ts s o st) ∧ Hid (wr.ownsRow w.heap.size 9 1 u l.length (l.map .string)) ∧ Hid (Chg (Pw rb pb) w wr) ∧
  Hid ((∃ k f, st = .ok k ∧ R = more f l k ∧ ts.length + 1 - k ≤ f ∧ g = ts.length + 2 - k) ∨ (∃ x, st = .error x ∧ R = .error x ∧ g = 0)) ∧ Hid (l.length + g ≤ ts.length + 4)
theorem WInv.append {w w1 w2 : World} {rb pb : Nat} {v : Value} {ts : List Tok} {s : ByteArray} {o : Nat} {st : St} {l : List ByteArray} {u : Value} (h : PS w1 rb pb v ts s o st) (G : Chg (Pw rb pb) w w1) (own : w1.ownsRow w.heap.size 9 1 u l.length (l.map .string)) (hlt : pb < w.heap.size) (hg : w1.grownBy w2 u.ownBlock) :
  PS w2 rb pb v ts s o st ∧ Chg (Pw rb pb) w w2 := by
 have g := own_grow_chg own hg
 refine ⟨h.chg g (fun x hx e => by omega), ?_⟩
 exact ((G.mono (T := fun x => Pw rb pb x ∨ w.heap.size ≤ x) (fun x _ h => Or.inl h)).trans (g.mono (fun x _ h => Or.inr h))).mono (fun x hx e => by
  rcases e with e | e
  ·
   exact e
  ·
   omega)

theorem words_st (ts : List Tok) (s : ByteArray) (st : St) (x1 : ByteArray) (hx : (tokOf (st.bind (tokS ts s 1))).2.1 = x1) :
  (∃ k f, (st.bind (tokS ts s 1)).st = .ok k ∧ st.bind (wordsS ts s) = moreW ts s f [x1] k ∧ ts.length + 1 - k ≤ f) ∨ (∃ x, (st.bind (tokS ts s 1)).st = .error x ∧ st.bind (wordsS ts s) = .error x) := by
 cases st with
 | error x => exact Or.inr ⟨x, rfl, rfl⟩
 | ok k =>
   simp only [St.bind, wordsS] at hx ⊢
   cases e : tokS ts s 1 k with
   | error x => exact Or.inr ⟨x, rfl, rfl⟩
   | ok q =>
     rw [e] at hx
     exact Or.inl ⟨q.2, ts.length + 1 - q.2, rfl, by simp only [Rz.bind]; rw [← hx]; rfl, Nat.le_refl _⟩

set_option maxRecDepth 100000 in
set_option maxHeartbeats 8000000 in
theorem words_any {rb pb : Nat} {v : Value} {ts : List Tok} {s : ByteArray} {o : Nat} {st : St} {w : World} (h : PS w rb pb v ts s o st) :
  Calls Try.prog 53 #[.pointer (some ⟨pb, 0, none⟩)] w (WOut w rb pb v ts s o (st.bind (wordsS ts s))) := by
 obtain ⟨i0, hi0, hz0, hz1, hz2⟩ := info_parts info9
 have TK := hide (word_any h)
 have HL := hide h.lt
 have HN := hide h.env.len
 obtain ⟨x1, hx1⟩ : ∃ x1, (tokOf (st.bind (tokS ts s 1))).2.1 = x1 := ⟨_, rfl⟩
 have LAW := hide (words_st ts s st x1 hx1)
 rw [hx1] at TK
 clear h hx1
 generalize st.bind (wordsS ts s) = R at *
 generalize (st.bind (tokS ts s 1)).st = st1 at *
 go_enter Try.func53, Try.ntmps53
 go_wp2_with fail
 refine TK.out.mono ?_
 rintro e w2 ⟨rfl, h2, g2⟩
 have GA := al w2 (.cells #[.string x1] 9)
 have H3 := hide (h2.chg GA (fun _ _ h => h))
 have G3 := hide (g2.trans GA.none)
 have O3 := hide (own_one (base := w.heap.size) (blk_new w2 (.cells #[.string x1] 9)) g2.size)
 have I3 : Hid (∃ g, WInv w (w2.alloc (.cells #[.string x1] 9)) rb pb v ts s o (moreW ts s) R (.slice (some ⟨w2.heap.size, 0, none⟩) 1 1) g) := hide (by
  rcases LAW.out with ⟨k, f, e, e2, hf⟩ | ⟨x, e, e2⟩
  ·
   subst e
   have hle : k ≤ ts.length := H3.out.le
   exact ⟨ts.length + 2 - k, .ok k, [x1], H3, O3, G3, hide (Or.inl ⟨k, f, rfl, e2, hf, rfl⟩), hide (by simp; omega)⟩
  ·
   subst e
   exact ⟨0, .error x, [x1], H3, O3, G3, hide (Or.inr ⟨x, rfl, e2, rfl⟩), hide (by simp)⟩)
 clear h2 g2 GA H3 G3 O3 LAW TK
 obtain ⟨g0, I0⟩ := I3.out
 have I0 := hide I0
 clear I3
 go_wp2_with fail
 generalize w2.alloc (.cells #[.string x1] 9) = w3 at *
 generalize (Value.slice (some ⟨w2.heap.size, 0, none⟩) 1 1) = u3 at *
 go_loopg [3] g0 (fun g u wr => Hid (WInv w wr rb pb v ts s o (moreW ts s) R u g))
 case atStart => exact I0
 case round =>
  have hI := hrel
  clear I0 hrel
  rename_i u
  obtain ⟨st, l, H4, O4, G4, J4, L4⟩ := hI.out
  clear hI
  obtain ⟨c0, _, _, _, _, _⟩ := H4.out.cells
  cases st with
  | error x =>
    have QF : Hid (R.st = .error x ∧ ∀ q, R = .ok q → l = q.1) := hide (by
     rcases J4.out with ⟨k, f, e0, -⟩ | ⟨y, e0, e, -⟩
     ·
      cases e0
     ·
      cases e0
      rw [e]
      exact ⟨rfl, fun q hq => by cases hq⟩)
    have H5 : Hid (PS wr rb pb v ts s o R.st) := hide (by rw [QF.out.1]; exact H4.out)
    have W5 := hide (sw_own (X := fun x => w.heap.size ≤ x ∧ x < wr.heap.size) O4.out (fun r e => World.ownsRow.lt O4.out r e))
    clear J4
    go_wp2_with fail
    refine (ok_err H4.out).mono ?_
    rintro e w' ⟨rfl, rfl⟩
    go_wp2_with fail
    go_ret
    exact ⟨⟨_, l, rfl, W5.out, QF.out.2⟩, H5.out, G4.out⟩
  | ok k =>
    have hle : k ≤ ts.length := H4.out.le
    have HLE := hide hle
    obtain ⟨f, ER, EK, EG⟩ : ∃ f, Hid (R = moreW ts s (f + 1) l k) ∧ Hid (ts.length + 1 - k ≤ f + 1) ∧ Hid (gk = ts.length + 2 - k) := by
     rcases J4.out with ⟨k', f, e0, e, hf, hg⟩ | ⟨y, e0, e, -⟩
     ·
      cases e0
      obtain ⟨f', rfl⟩ : ∃ f', f = f' + 1 := ⟨f - 1, by omega⟩
      exact ⟨f', e, hf, hg⟩
     ·
      cases e0
    have PK := hide (fun w' (h : PS w' rb pb v ts s o (.ok k)) => peek_some rb rb v ts s k 0 h.le (by have := h.env.len; omega) (by have := h.env.size; omega) w' h.rd h.tks)
    obtain ⟨t, ht⟩ : ∃ t, tokAt ts s k 0 = t := ⟨_, rfl⟩
    rw [ht] at PK
    have HT := hide ht
    clear J4 ht hle
    obtain ⟨t0, t1, t2⟩ := t
    have etv : tokV (t0, t1, t2) = .agg #[.int .i64 t0, .string t1, .int .i64 (t2 : Int)] := rfl
    rw [etv] at PK
    have fl0 := field75_0 (.int .i64 t0) (.string t1) (.int .i64 (t2 : Int))
    clear etv
    go_wp2_with fail
    refine (ok_ok H4.out).mono ?_
    rintro e w' ⟨rfl, rfl⟩
    go_wp2_with fail
    refine (PK.out wr H4.out).mono ?_
    rintro e w5 ⟨rfl, g5⟩
    have H5 := hide (H4.out.chg g5 (fun _ _ h => h))
    have O5 := hide (own_chgS O4.out g5 (fun _ _ h => h))
    have G5 := hide (G4.out.trans g5.none)
    clear g5 c0
    by_cases h1 : t0 = 1
    ·
     subst h1
     have ER2 : Hid (R = moreW ts s f (l ++ [t1]) (k + 1)) := hide (by
      rw [ER.out, moreW, HT.out, if_pos rfl])
     have ET : Hid (tokS ts s 1 k = .ok ((1, t1, t2), k + 1)) := hide (by unfold tokS; rw [HT.out, if_pos rfl])
     have WD := hide (word_any H5.out)
     have WD : Hid (Calls Try.prog 57 #[.pointer (some ⟨pb, 0, none⟩)] w5 fun e w' => e = .returned (.string (tokOf (tokS ts s 1 k)).2.1) ∧ PS w' rb pb v ts s o (tokS ts s 1 k).st ∧ Chg (Pw rb pb) w5 w') := WD
     rw [ET.out] at WD
     have WD : Hid (Calls Try.prog 57 #[.pointer (some ⟨pb, 0, none⟩)] w5 fun e w' => e = .returned (.string t1) ∧ PS w' rb pb v ts s o (.ok (k + 1)) ∧ Chg (Pw rb pb) w5 w') := WD
     go_wp2_with fail
     refine WD.out.mono ?_
     rintro e w6 ⟨rfl, h6, g6⟩
     have GA := al w6 (.cells #[.string t1] 9)
     have H7 := hide (h6.chg GA (fun _ _ h => h))
     have O7 := hide (own_chgS (own_chgS O5.out g6 (fun x hx e => by have := HL.out; rcases e with e | e <;> omega)) GA (fun _ _ h => h))
     have G7 := hide ((G5.out.trans g6).trans GA.none)
     have N7 := hide (World.news_of_block (cs := #[.string t1]) (t := 9) (fr := (0, 0)) (heap_alloc_new w6 _))
     have P7 : w.heap.size ≤ (w6.alloc (.cells #[.string t1] 9)).heap.size := by have := G7.out.size; exact this
     have hll : l.length ≤ 20004 := by have := L4.out; have := HN.out; omega
     have LL := hide hll
     clear h6 g6 GA WD O5 O4
     go_wp2_with (at_builtin; refine wpList_append_lies _ rfl _ _ 39 rfl w.heap.size 9 i0 (.string ⟨#[]⟩) 1 16 Try.underlying39 hi0 hz0 hz1 hz2 rfl (by decide) _ l.length (l.map .string) rfl O7.out ⟨w6.heap.size, 0, none⟩ 1 1 [.string t1] rfl rfl N7.out (by simp [Value.oneCell']) (by omega) (by simp [maxLen]; omega) (by omega) P7 (w6.heap.size + 1) (by simp) ?_; intro gg cap2 w8 hown hgrow hgat hglt)
     have AP := hide (WInv.append H7.out G7.out O7.out HL.out.2 hgrow)
     have O8 : Hid (w8.ownsRow w.heap.size 9 1 (.slice (some ⟨gg, 0, none⟩) (l.length + 1) cap2) (l ++ [t1]).length ((l ++ [t1]).map .string)) := hide (by rw [List.length_append, List.map_append]; exact hown)
     have I8 : Hid (∃ g', g' < gk ∧ WInv w w8 rb pb v ts s o (moreW ts s) R (.slice (some ⟨gg, 0, none⟩) (l.length + 1) cap2) g') := hide ⟨ts.length + 2 - (k + 1), by have := EG.out; have := HLE.out; omega, .ok (k + 1), l ++ [t1], hide AP.out.1, O8, hide AP.out.2, hide (Or.inl ⟨k + 1, f, rfl, ER2.out, by have := EK.out; omega, rfl⟩), hide (by have := L4.out; have := EG.out; have := HLE.out; rw [List.length_append, List.length_singleton]; omega)⟩
     clear AP O8 hown hgrow hgat hglt H7 G7 O7
     go_wp2_with fail
     obtain ⟨g', hg', HI⟩ := I8.out
     have HI := hide HI
     clear I8
     go_roundg g'
     case measure => exact hg'
     case rel => exact HI
    ·
     have e1 : (t0 == 1) = false := by simpa using h1
     have ER2 : Hid (R = .ok (l, k)) := hide (by rw [ER.out, moreW, HT.out, if_neg h1])
     have H6 : Hid (PS w5 rb pb v ts s o R.st) := hide (by rw [ER2.out]; exact H5.out)
     have W6 := hide (sw_own (X := fun x => w.heap.size ≤ x ∧ x < w5.heap.size) O5.out (fun r e => World.ownsRow.lt O5.out r e))
     go_wp2_with fail
     go_ret
     exact ⟨⟨_, l, rfl, W6.out, fun q hq => by rw [ER2.out] at hq; cases hq; rfl⟩, H6.out, G5.out⟩
end Go.Proofs.Ytboeeaekhijboaa
