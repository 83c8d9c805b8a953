/- The program's parser: number, named, counted, begins. -/
import Derived.Test.YtboeeaekhijboaaPispec
namespace Go.Proofs.Ytboeeaekhijboaa
open Go.RowKit
set_option linter.unusedVariables false
set_option linter.unusedSimpArgs false

/-- The value is a row of words. -/
def Sw (w : World) (X : Nat → Prop) (v : Value) (l : List ByteArray) : Prop :=
  ∃ a cap, v = .slice a l.length cap ∧ (l = [] ∨ ∃ g off, a = some ⟨g, off, none⟩ ∧ X g ∧ ∀ i (h : i < l.length), w.cell? ⟨g, off + i, none⟩ = some (.string l[i]))
theorem Sw.chg {w w' : World} {X : Nat → Prop} {v : Value} {l : List ByteArray} (h : Sw w X v l) {S : Nat → Prop} (g : Chg S w w') (hn : ∀ x, X x → ¬ S x) : Sw w' X v l := by
  obtain ⟨a, cap, e, h1⟩ := h
  refine ⟨a, cap, e, ?_⟩
  rcases h1 with h1 | ⟨b, off, e1, h2, h3⟩
  · exact Or.inl h1
  · exact Or.inr ⟨b, off, e1, h2, fun i hi => g.cell (hn b h2) (h3 i hi)⟩
theorem Sw.up {w : World} {X Y : Nat → Prop} {v : Value} {l : List ByteArray} (h : Sw w X v l) (hb : ∀ x, X x → Y x) : Sw w Y v l := by
  obtain ⟨a, cap, e, h1⟩ := h
  refine ⟨a, cap, e, ?_⟩
  rcases h1 with h1 | ⟨b, off, e1, h2, h3⟩
  · exact Or.inl h1
  · exact Or.inr ⟨b, off, e1, hb b h2, h3⟩
theorem Sw.nil (w : World) (X : Nat → Prop) : Sw w X (.slice none 0 0) [] := ⟨none, 0, rfl, Or.inl rfl⟩
theorem sw_one {w : World} {X : Nat → Prop} {g : Nat} {x : ByteArray} {T : TypeId} (h : w.heap[g]? = some (.cells #[.string x] T)) (hg : X g) : Sw w X (.slice (some ⟨g, 0, none⟩) 1 1) [x] :=
  ⟨_, _, rfl, Or.inr ⟨g, 0, rfl, hg, fun i hi => by
    match i, hi with
    | 0, _ => exact blk_cell h 0⟩⟩
theorem sw_two {w : World} {X : Nat → Prop} {g : Nat} {x y : ByteArray} {T : TypeId} (h : w.heap[g]? = some (.cells #[.string x, .string y] T)) (hg : X g) : Sw w X (.slice (some ⟨g, 0, none⟩) 2 2) [x, y] :=
  ⟨_, _, rfl, Or.inr ⟨g, 0, rfl, hg, fun i hi => by
    match i, hi with
    | 0, _ => exact blk_cell h 0
    | 1, _ => exact blk_cell h 1⟩⟩
/-- an own row of words is a row of words -/
theorem sw_own {w : World} {base : Nat} {v : Value} {l : List ByteArray} (h : w.ownsRow base 9 1 v l.length (l.map .string)) {X : Nat → Prop} (hX : ∀ r, v.ownBlock = some r → X r) : Sw w X v l := by
  obtain ⟨h1, h2⟩ := id h
  rcases h2 with ⟨rfl, h3⟩ | ⟨g, cap, cur, rfl, h3⟩
  · have : l = [] := List.eq_nil_of_length_eq_zero h3
    subst this
    exact Sw.nil _ _
  · refine ⟨_, cap, rfl, Or.inr ⟨g, 0, rfl, hX g rfl, fun i hi => ?_⟩⟩
    have hc := World.ownsRow.cells h (g := g) rfl i (.string l[i]) (by simp [hi])
    rw [add_at] at hc
    rw [Nat.zero_add]; exact hc

/-- words were read, or a fault lies there -/
def WOut (w : World) (rb pb : Nat) (v : Value) (ts : List Tok) (s : ByteArray) (o : Nat) (r : Rz (List ByteArray)) (e : Ending) (w' : World) : Prop :=
  (∃ u l, e = .returned u ∧ Sw w' (fun x => w.heap.size ≤ x ∧ x < w'.heap.size) u l ∧ ∀ q, r = .ok q → l = q.1) ∧ PS w' rb pb v ts s o r.st ∧ Chg (Pw rb pb) w w'
/-- a number was read, or a fault lies there -/
def NOut (w : World) (rb pb : Nat) (v : Value) (ts : List Tok) (s : ByteArray) (o : Nat) (r : Rz Int) (e : Ending) (w' : World) : Prop :=
  (∃ n : Int, e = .returned (.int .i64 n) ∧ ∀ q, r = .ok q → n = q.1) ∧ PS w' rb pb v ts s o r.st ∧ Chg (Pw rb pb) w w'

def numS (ts : List Tok) (s : ByteArray) (k : Nat) : Rz Int := (tokS ts s 2 k).bind fun t k1 => .ok (numV t, k1)
theorem num_law (ts : List Tok) (s : ByteArray) (st : St) : (st.bind (tokS ts s 2)).st = (st.bind (numS ts s)).st ∧ ∀ q, st.bind (numS ts s) = .ok q → numV (tokOf (st.bind (tokS ts s 2))) = q.1 := by
  cases st with
  | error x => exact ⟨rfl, fun q hq => by cases hq⟩
  | ok k =>
    simp only [St.bind, numS]
    cases tokS ts s 2 k with
    | error x => exact ⟨rfl, fun q hq => by cases hq⟩
    | ok p => exact ⟨rfl, fun q hq => by cases hq; rfl⟩

set_option maxRecDepth 100000 in
theorem number_any {rb pb : Nat} {v : Value} {ts : List Tok} {s : ByteArray} {o : Nat} {st : St} {w : World} (h : PS w rb pb v ts s o st) :
    Calls Try.prog 59 #[.pointer (some ⟨pb, 0, none⟩)] w (NOut w rb pb v ts s o (st.bind (numS ts s))) := by
  have TK := hide (token_any 2 (by decide) h)
  have LAW := hide (num_law ts s st)
  have HTX := hide h.env.tx
  have HT : Hid ((tokOf (st.bind (tokS ts s 2))).2.1.size ≤ 1000000) := hide (by
    cases st with
    | error x => exact Nat.zero_le _
    | ok k =>
      show (tokOf (tokS ts s 2 k)).2.1.size ≤ 1000000
      unfold tokS
      split
      · rename_i h2
        have hlt := tokAt_len (s := s) (show (tokAt ts s k 0).1 ≠ 4 by rw [h2]; decide)
        have ht : tokAt ts s k 0 = ts[k] := tokAt_in (by omega) (by omega) hlt
        show (tokAt ts s k 0).2.1.size ≤ 1000000
        rw [ht]
        exact HTX.out _ (List.getElem_mem hlt)
      · exact Nat.zero_le _)
  clear h HTX
  generalize st.bind (numS ts s) = R at *
  generalize st.bind (tokS ts s 2) = r at *
  obtain ⟨t, ht⟩ : ∃ t, tokOf r = t := ⟨_, rfl⟩
  rw [ht] at TK LAW HT
  clear ht
  obtain ⟨t0, t1, t2⟩ := t
  have etv : tokV (t0, t1, t2) = .agg #[.int .i64 t0, .string t1, .int .i64 (t2 : Int)] := rfl
  rw [etv] at TK
  obtain ⟨F, hF⟩ : ∃ F : Int × Int, F = if t0 = 2 ∧ numB t1 = true then ((valL t1.data.toList 0 : Int), 0) else (0, 1) := ⟨_, rfl⟩
  have HV : Hid (F.1 = numV (t0, t1, t2)) := hide (by rw [hF]; unfold numV; split <;> rfl)
  have VA := hide (fun w => value_any t0 t1 (t2 : Int) (by have := HT.out; dsimp only at this; omega) w F hF)
  obtain ⟨f1, f2⟩ := F
  dsimp only at VA HV
  clear etv hF
  go_enter Try.func59, Try.ntmps59
  go_wp2_with fail
  refine TK.out.mono ?_
  rintro e w2 ⟨rfl, h2, g2⟩
  have H2 := hide h2
  have G2 := hide g2
  clear h2 g2
  go_wp2_with fail
  refine (VA.out w2).mono ?_
  rintro e w3 ⟨rfl, g3⟩
  have C3 := hide (Chg.ofB g3)
  have H3 := hide (H2.out.chg C3.out (fun _ _ h => h))
  rw [LAW.out.1] at H3
  have G3 := hide (G2.out.trans C3.out.none)
  clear g3
  go_wp2_with fail
  go_ret
  exact ⟨⟨f1, rfl, fun q hq => HV.out.trans (LAW.out.2 q hq)⟩, H3.out, G3.out⟩

theorem named_law (ts : List Tok) (s : ByteArray) (st : St) : ((st.bind (tokS ts s 1)).st.then (mustS ts s bColon)) = (st.bind (namedS ts s)).st ∧ ∀ q, st.bind (namedS ts s) = .ok q → [(tokOf (st.bind (tokS ts s 1))).2.1] = q.1 := by
  cases st with
  | error x => exact ⟨rfl, fun q hq => by cases hq⟩
  | ok k =>
    simp only [St.bind, namedS]
    cases tokS ts s 1 k with
    | error x => exact ⟨rfl, fun q hq => by cases hq⟩
    | ok p =>
      simp only [Rz.bind, Rz.st, St.then]
      cases mustS ts s bColon p.2 with
      | error x => exact ⟨rfl, fun q hq => by cases hq⟩
      | ok k2 => exact ⟨rfl, fun q hq => by cases hq; rfl⟩
set_option maxRecDepth 100000 in
theorem named_any {rb pb : Nat} {v : Value} {ts : List Tok} {s : ByteArray} {o : Nat} {st : St} {w : World} (h : PS w rb pb v ts s o st) :
    Calls Try.prog 54 #[.pointer (some ⟨pb, 0, none⟩)] w (WOut w rb pb v ts s o (st.bind (namedS ts s))) := by
  have TK := hide (word_any h)
  have LAW := hide (named_law ts s st)
  have hl := hide h.lt
  clear h
  generalize st.bind (namedS ts s) = R at *
  generalize st.bind (tokS ts s 1) = r at *
  obtain ⟨x1, hx1⟩ : ∃ x1, (tokOf r).2.1 = x1 := ⟨_, rfl⟩
  rw [hx1] at TK LAW
  clear hx1
  go_enter Try.func54, Try.ntmps54
  go_wp2_with fail
  refine TK.out.mono ?_
  rintro e w2 ⟨rfl, h2, g2⟩
  have MU := hide (must_any bColon h2)
  rw [LAW.out.1] at MU
  have G2 := hide g2
  clear h2 g2
  go_wp2_with fail
  refine MU.out.mono ?_
  rintro e w3 ⟨rfl, h3, g3⟩
  have H3 := hide (h3.chg (al w3 (.cells #[.string x1] 9)) (fun _ _ h => h))
  have G3 := hide ((G2.out.trans g3).trans (al w3 (.cells #[.string x1] 9)).none)
  have W3 := hide (sw_one (X := fun x => w.heap.size ≤ x ∧ x < (w3.alloc (.cells #[.string x1] 9)).heap.size) (blk_new w3 (.cells #[.string x1] 9)) ⟨by have h1 := (G2.out.trans g3).size; omega, by simp⟩)
  clear h3 g3
  go_wp2_with fail
  go_ret
  exact ⟨⟨_, [x1], rfl, W3.out, LAW.out.2⟩, H3.out, G3.out⟩

theorem counted_law (ts : List Tok) (s : ByteArray) (st : St) (n : Int) (hn : ∀ q, st.bind (numS ts s) = .ok q → n = q.1) : ((st.bind (numS ts s)).st.then (mustS ts s bColon)) = (st.bind (countedS ts s)).st ∧ ∀ q, st.bind (countedS ts s) = .ok q → n = q.1 := by
  cases st with
  | error x => exact ⟨rfl, fun q hq => by cases hq⟩
  | ok k =>
    simp only [St.bind, countedS, numS] at hn ⊢
    cases e : tokS ts s 2 k with
    | error x => exact ⟨rfl, fun q hq => by cases hq⟩
    | ok p =>
      rw [e] at hn
      have hn1 := hn _ rfl
      simp only [Rz.bind, Rz.st, St.then]
      cases mustS ts s bColon p.2 with
      | error x => exact ⟨rfl, fun q hq => by cases hq⟩
      | ok k2 => exact ⟨rfl, fun q hq => by cases hq; exact hn1⟩
set_option maxRecDepth 100000 in
theorem counted_any {rb pb : Nat} {v : Value} {ts : List Tok} {s : ByteArray} {o : Nat} {st : St} {w : World} (h : PS w rb pb v ts s o st) :
    Calls Try.prog 58 #[.pointer (some ⟨pb, 0, none⟩)] w (NOut w rb pb v ts s o (st.bind (countedS ts s))) := by
  have TK := hide (number_any h)
  have LAW := hide (fun n hn => counted_law ts s st n hn)
  clear h
  generalize st.bind (countedS ts s) = R at *
  generalize st.bind (numS ts s) = r at *
  go_enter Try.func58, Try.ntmps58
  go_wp2_with fail
  refine TK.out.mono ?_
  rintro e w2 ⟨⟨n, rfl, hn⟩, h2, g2⟩
  have LW := hide (LAW.out n hn)
  have MU := hide (must_any bColon h2)
  rw [LW.out.1] at MU
  have G2 := hide g2
  clear h2 g2 hn LAW
  go_wp2_with fail
  refine MU.out.mono ?_
  rintro e w3 ⟨rfl, h3, g3⟩
  have H3 := hide h3
  have G3 := hide (G2.out.trans g3)
  clear h3 g3
  go_wp2_with fail
  go_ret
  exact ⟨⟨n, rfl, LW.out.2⟩, H3.out, G3.out⟩
end Go.Proofs.Ytboeeaekhijboaa
