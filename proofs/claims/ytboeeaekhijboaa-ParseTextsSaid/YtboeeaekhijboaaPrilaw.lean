/- The document's item in plain words, step by step; rows of nodes that grow. The document's parser: item. -/
import Derived.Test.YtboeeaekhijboaaPitems
import Derived.Test.YtboeeaekhijboaaPof
import Derived.Test.YtboeeaekhijboaaPrterm
import Derived.Test.YtboeeaekhijboaaPrfault
import Derived.Test.YtboeeaekhijboaaPterms
import Derived.Deep.CutBlock
import Derived.Deep.LoopGhost
namespace Go.Proofs.Ytboeeaekhijboaa
open Go.RowKit
set_option linter.unusedVariables false
set_option linter.unusedSimpArgs false

/-- the nodes that are gathered: not in the row itself -/
def SameN (w : World) (B : Nat) (u : Value) (l : List Nd) (us : List Nc) : Prop :=
 us.length = l.length ∧ ∀ j (h1 : j < l.length) (h2 : j < us.length), NL w (fun x => B ≤ x ∧ x < w.heap.size ∧ u.ownBlock ≠ some x) us[j] l[j]
theorem SameN.nil (w : World) (B : Nat) (u : Value) : SameN w B u [] [] := ⟨rfl, fun j h1 => absurd h1 (Nat.not_lt_zero _)⟩
theorem SameN.chg {w w' : World} {B : Nat} {u : Value} {l : List Nd} {us : List Nc} (h : SameN w B u l us) {S : Nat → Prop} (g : Chg S w w') (hn : ∀ x, B ≤ x → x < w.heap.size → u.ownBlock ≠ some x → ¬ S x) : SameN w' B u l us :=
 ⟨h.1, fun j h1 h2 => ((h.2 j h1 h2).chg g (fun x hx => hn x hx.1 hx.2.1 hx.2.2)).up (fun x hx => ⟨hx.1, Nat.lt_of_lt_of_le hx.2.1 g.size, hx.2.2⟩)⟩
theorem SameN.grown {w w' : World} {B : Nat} {u u' : Value} {l : List Nd} {us : List Nc} (h : SameN w B u l us) (hg : w.grownBy w' u.ownBlock) (hu : u'.ownBlock = u.ownBlock ∨ u'.ownBlock = some w.heap.size) : SameN w' B u' l us :=
 ⟨h.1, fun j h1 h2 => ((h.2 j h1 h2).chg ((Chg.refl (fun x => u.ownBlock = some x) w).grown hg (fun r e => Or.inl e)) (fun x hx e => hx.2.2 e)).up (fun x hx => ⟨hx.1, Nat.lt_of_lt_of_le hx.2.1 hg.size, fun e => by
  rcases hu with hu | hu
  ·
   rw [hu] at e; exact hx.2.2 e
  ·
   rw [hu] at e; have := Option.some.inj e; omega⟩)⟩
theorem SameN.snoc {w : World} {B : Nat} {u : Value} {l : List Nd} {us : List Nc} (h : SameN w B u l us) {p : Nc} {x : Nd} (hp : NL w (fun x => B ≤ x ∧ x < w.heap.size ∧ u.ownBlock ≠ some x) p x) : SameN w B u (l ++ [x]) (us ++ [p]) := by
 refine ⟨by rw [List.length_append, List.length_append, h.1]; rfl, fun j h1 h2 => ?_⟩
 by_cases e : j < us.length
 ·
  rw [List.getElem_append_left e, List.getElem_append_left (by rw [← h.1]; exact e)]; exact h.2 j _ e
 ·
  have hj : j = us.length := by rw [List.length_append, List.length_singleton] at h2; omega
  have hl := h.1
  rw [List.getElem_append_right (by omega), List.getElem_append_right (by omega)]
  simp only [hj, hl, Nat.sub_self, List.getElem_cons_zero]
  exact hp
theorem sameN_ts {w : World} {base : Nat} {E : TypeId} {v : Value} {l : List Nd} {us : List Nc} (h : w.ownsRow base E 4 v us.length (cellsN us)) (hs : SameN w base v l us) : Ts w (fun x => base ≤ x ∧ x < w.heap.size) v (Ns.ofL l) := by
 refine nacc_ts h (fun r e => World.ownsRow.lt h r e) (by rw [Ns.toL_ofL]; exact hs.1.symm) (fun i h1 h2 => ?_)
 have e : ((Ns.ofL l).toL)[i] = l[i]'(by rw [← Ns.toL_ofL l]; exact h1) := by simp only [Ns.toL_ofL]
 rw [e]
 exact (hs.2 i _ h2).up (fun x hx => ⟨hx.1, hx.2.1⟩)

/-- the words are being gathered -/
def RW (w wr : World) (tb : Nat) (v : Value) (ts : List Tok) (s : ByteArray) (A X bo : Nat) (kd at0 : Int) (st : St) (l : List ByteArray) : Prop :=
 ∃ u1, Hid (RS wr tb v ts s st) ∧ Hid (wr.heap[A]? = some (.cells #[.int .i64 0, .slice none 0 0, .slice none 0 0, .int .i64 0, .int .i64 0] 42)) ∧ Hid (wr.heap[X]? = some (.cells #[.int .i64 kd, u1, .slice none 0 0, .int .i64 0, .int .i64 at0] 42)) ∧
  Hid (wr.ownsRow bo 9 1 u1 l.length (l.map .string)) ∧ Hid (bo ≤ wr.heap.size) ∧ Hid (Chg (fun x => x = tb) w wr)
/-- the nodes are being gathered -/
def RN (w wr : World) (tb : Nat) (v : Value) (ts : List Tok) (s : ByteArray) (A X bo : Nat) (kd num at0 : Int) (st : St) (l : List ByteArray) (ns : List Nd) : Prop :=
 ∃ u1 u2 us, Hid (RS wr tb v ts s st) ∧ Hid (wr.heap[A]? = some (.cells #[.int .i64 0, .slice none 0 0, .slice none 0 0, .int .i64 0, .int .i64 0] 42)) ∧ Hid (wr.heap[X]? = some (.cells #[.int .i64 kd, u1, u2, .int .i64 num, .int .i64 at0] 42)) ∧
  Hid (Sw wr (fun x => bo ≤ x ∧ x < wr.heap.size ∧ u2.ownBlock ≠ some x) u1 l) ∧ Hid (wr.ownsRow bo 55 4 u2 us.length (cellsN us)) ∧ Hid (SameN wr bo u2 ns us) ∧ Hid (bo ≤ wr.heap.size) ∧ Hid (Chg (fun x => x = tb) w wr)
theorem RW.toN {w wr : World} {tb : Nat} {v : Value} {ts : List Tok} {s : ByteArray} {A X bo : Nat} {kd at0 : Int} {st : St} {l : List ByteArray} (h : RW w wr tb v ts s A X bo kd at0 st l) : RN w wr tb v ts s A X bo kd 0 at0 st l [] := by
 obtain ⟨u1, h1, h2, h3, h4, h5, h6⟩ := h
 exact ⟨u1, .slice none 0 0, [], h1, h2, h3, hide (sw_own h4.out (fun r e => ⟨(World.ownsRow.lt h4.out r e).1, (World.ownsRow.lt h4.out r e).2, fun e2 => by cases e2⟩)), hide (World.ownsRow_nil _ _ _ _), hide (SameN.nil _ _ _), h5, h6⟩
/-- all that stands behind the word that begins an item has been read -/
def RBody (w wr : World) (tb : Nat) (v : Value) (ts : List Tok) (s : ByteArray) (A X bo : Nat) (kd at0 : Int) (r : Rz (List ByteArray × Ns × Int)) : Prop :=
 ∃ l ns num st, Hid (RN w wr tb v ts s A X bo kd num at0 st l ns) ∧ Hid (st = r.st) ∧ Hid (∀ q, r = .ok q → (l, Ns.ofL ns, num) = q.1)

section
variable (ts : List Tok) (s : ByteArray)
abbrev Rb := Rz (List ByteArray × Ns × Int)
theorem ofL_one (a : Nd) : Ns.ofL [a] = oneN a := rfl
theorem ofL_two (a b : Nd) : Ns.ofL [a, b] = twoN a b := rfl
/-- a word alone -/
theorem rlaw12 (k : Nat) : (tokS ts s 1 k).st = (bodyS ts s 12 k).st ∧ ∀ q, bodyS ts s 12 k = .ok q → ([(tokOf (tokS ts s 1 k)).2.1], Ns.ofL [], (0 : Int)) = q.1 := by
 have e : bodyS ts s 12 k = (tokS ts s 1 k).bind fun t k1 => .ok (([t.2.1], .nil, 0), k1) := by
  unfold bodyS; rw [if_neg (by decide), if_neg (by decide), if_neg (by decide), if_neg (by decide), if_neg (by decide), if_neg (by decide), if_neg (by decide), if_neg (by decide), if_pos rfl]
 rw [e]
 cases tokS ts s 1 k with
 | error x => exact ⟨rfl, fun q hq => by cases hq⟩
 | ok p => exact ⟨rfl, fun q hq => by cases hq; rfl⟩
/-- a number alone -/
theorem rlawN (kd : Int) (hk : kd = 8 ∨ kd = 11) (k : Nat) : (tokS ts s 2 k).st = (bodyS ts s kd k).st ∧ ∀ q, bodyS ts s kd k = .ok q → (([] : List ByteArray), Ns.ofL [], numV (tokOf (tokS ts s 2 k))) = q.1 := by
 have e : bodyS ts s kd k = (tokS ts s 2 k).bind fun t k1 => .ok (([], .nil, numV t), k1) := by
  rcases hk with rfl | rfl <;> (unfold bodyS; rw [if_neg (by decide), if_neg (by decide), if_neg (by decide), if_neg (by decide), if_neg (by decide), if_neg (by decide), if_neg (by decide), if_neg (by decide), if_neg (by decide)])
 rw [e]
 cases tokS ts s 2 k with
 | error x => exact ⟨rfl, fun q hq => by cases hq⟩
 | ok p => exact ⟨rfl, fun q hq => by cases hq; rfl⟩
/-- two words -/
theorem rlaw7 (k : Nat) : ((tokS ts s 1 k).st.bind (tokS ts s 1)).st = (bodyS ts s 7 k).st ∧ ∀ q, bodyS ts s 7 k = .ok q → ([(tokOf (tokS ts s 1 k)).2.1, (tokOf ((tokS ts s 1 k).st.bind (tokS ts s 1))).2.1], Ns.ofL [], (0 : Int)) = q.1 := by
 have e : bodyS ts s 7 k = (tokS ts s 1 k).bind fun t k1 => (tokS ts s 1 k1).bind fun u k2 => .ok (([t.2.1, u.2.1], .nil, 0), k2) := by
  unfold bodyS; rw [if_neg (by decide), if_neg (by decide), if_neg (by decide), if_neg (by decide), if_neg (by decide), if_pos rfl]
 rw [e]
 cases tokS ts s 1 k with
 | error x => exact ⟨rfl, fun q hq => by cases hq⟩
 | ok p =>
   simp only [Rz.st, Rz.bind, St.bind]
   cases tokS ts s 1 p.2 with
   | error x => exact ⟨rfl, fun q hq => by cases hq⟩
   | ok p2 => exact ⟨rfl, fun q hq => by cases hq; rfl⟩
/-- a word and a type -/
theorem rlaw2 (kd : Int) (hk : kd = 2 ∨ kd = 3) (k : Nat) (n : Nd) (hn : ∀ q, ((tokS ts s 1 k).st.then (mustS ts s bColon)).bind (typS ts s 60) = .ok q → n = q.1) :
  (((tokS ts s 1 k).st.then (mustS ts s bColon)).bind (typS ts s 60)).st = (bodyS ts s kd k).st ∧ ∀ q, bodyS ts s kd k = .ok q → ([(tokOf (tokS ts s 1 k)).2.1], Ns.ofL [n], (0 : Int)) = q.1 := by
 have e : bodyS ts s kd k = (namedS ts s k).bind fun l k1 => (typS ts s 60 k1).bind fun a k2 => .ok ((l, oneN a, 0), k2) := by
  rcases hk with rfl | rfl <;> (unfold bodyS; rw [if_neg (by decide), if_pos (by decide)])
 rw [e]
 unfold namedS
 cases e1 : tokS ts s 1 k with
 | error x => exact ⟨rfl, fun q hq => by cases hq⟩
 | ok p =>
   rw [e1] at hn
   simp only [Rz.st, Rz.bind, St.then] at hn ⊢
   cases e2 : mustS ts s bColon p.2 with
   | error x => exact ⟨rfl, fun q hq => by cases hq⟩
   | ok k2 =>
     rw [e2] at hn
     simp only [St.bind, Rz.bind] at hn ⊢
     cases e3 : typS ts s 60 k2 with
     | error x => exact ⟨rfl, fun q hq => by cases hq⟩
     | ok p3 => exact ⟨rfl, fun q hq => by cases hq; rw [hn p3 e3]; rfl⟩
/-- a word and two terms -/
theorem rlaw4 (kd : Int) (sg : ByteArray) (hk : (kd = 4 ∧ sg = bEq) ∨ (kd = 5 ∧ sg = bGt)) (k : Nat) (st2 : St) (h2 : st2 = (tokS ts s 1 k).st.then (mustS ts s bColon)) (n : Nd) (hn : ∀ q, st2.bind (termS ts s 60) = .ok q → n = q.1)
  (st3 : St) (h3 : st3 = (st2.bind (termS ts s 60)).st.then (mustS ts s sg)) (m : Nd) (hm : ∀ q, st3.bind (termS ts s 60) = .ok q → m = q.1) :
  (st3.bind (termS ts s 60)).st = (bodyS ts s kd k).st ∧ ∀ q, bodyS ts s kd k = .ok q → ([(tokOf (tokS ts s 1 k)).2.1], Ns.ofL [n, m], (0 : Int)) = q.1 := by
 have e : bodyS ts s kd k = (namedS ts s k).bind fun l k1 => (termsS ts s sg k1).bind fun a k2 => .ok ((l, a, 0), k2) := by
  rcases hk with ⟨rfl, rfl⟩ | ⟨rfl, rfl⟩
  ·
   unfold bodyS; rw [if_neg (by decide), if_neg (by decide), if_pos rfl]
  ·
   unfold bodyS; rw [if_neg (by decide), if_neg (by decide), if_neg (by decide), if_pos rfl]
 rw [e]
 subst h3 h2
 unfold namedS termsS
 cases e1 : tokS ts s 1 k with
 | error x => exact ⟨rfl, fun q hq => by cases hq⟩
 | ok p =>
   rw [e1] at hn hm
   simp only [Rz.st, Rz.bind, St.then] at hn hm ⊢
   cases e2 : mustS ts s bColon p.2 with
   | error x => exact ⟨rfl, fun q hq => by cases hq⟩
   | ok k2 =>
     rw [e2] at hn hm
     simp only [St.bind, Rz.bind, Rz.st, St.then] at hn hm ⊢
     cases e3 : termS ts s 60 k2 with
     | error x => exact ⟨rfl, fun q hq => by cases hq⟩
     | ok p3 =>
       rw [e3] at hm
       have en := hn p3 e3
       simp only at hm ⊢
       cases e4 : mustS ts s sg p3.2 with
       | error x => exact ⟨rfl, fun q hq => by cases hq⟩
       | ok k4 =>
         rw [e4] at hm
         simp only at hm ⊢
         cases e5 : termS ts s 60 k4 with
         | error x => exact ⟨rfl, fun q hq => by cases hq⟩
         | ok p5 => exact ⟨rfl, fun q hq => by cases hq; rw [en, hm p5 e5]; rfl⟩
/-- a number and a term -/
theorem rlaw9 (k : Nat) (n : Nd) (hn : ∀ q, ((tokS ts s 2 k).st.then (mustS ts s bColon)).bind (termS ts s 60) = .ok q → n = q.1) :
  (((tokS ts s 2 k).st.then (mustS ts s bColon)).bind (termS ts s 60)).st = (bodyS ts s 9 k).st ∧ ∀ q, bodyS ts s 9 k = .ok q → (([] : List ByteArray), Ns.ofL [n], numV (tokOf (tokS ts s 2 k))) = q.1 := by
 have e : bodyS ts s 9 k = (countedS ts s k).bind fun n k1 => (termS ts s 60 k1).bind fun a k2 => .ok (([], oneN a, n), k2) := by
  unfold bodyS; rw [if_neg (by decide), if_neg (by decide), if_neg (by decide), if_neg (by decide), if_neg (by decide), if_neg (by decide), if_pos rfl]
 rw [e]
 unfold countedS
 cases e1 : tokS ts s 2 k with
 | error x => exact ⟨rfl, fun q hq => by cases hq⟩
 | ok p =>
   rw [e1] at hn
   simp only [Rz.st, Rz.bind, St.then] at hn ⊢
   cases e2 : mustS ts s bColon p.2 with
   | error x => exact ⟨rfl, fun q hq => by cases hq⟩
   | ok k2 =>
     rw [e2] at hn
     simp only [St.bind, Rz.bind] at hn ⊢
     cases e3 : termS ts s 60 k2 with
     | error x => exact ⟨rfl, fun q hq => by cases hq⟩
     | ok p3 => exact ⟨rfl, fun q hq => by cases hq; rw [hn p3 e3]; rfl⟩
/-- a number and two terms -/
theorem rlaw10 (k : Nat) (st2 : St) (h2 : st2 = (tokS ts s 2 k).st.then (mustS ts s bColon)) (n : Nd) (hn : ∀ q, st2.bind (termS ts s 60) = .ok q → n = q.1)
  (st3 : St) (h3 : st3 = (st2.bind (termS ts s 60)).st.then (mustS ts s bEq)) (m : Nd) (hm : ∀ q, st3.bind (termS ts s 60) = .ok q → m = q.1) :
  (st3.bind (termS ts s 60)).st = (bodyS ts s 10 k).st ∧ ∀ q, bodyS ts s 10 k = .ok q → (([] : List ByteArray), Ns.ofL [n, m], numV (tokOf (tokS ts s 2 k))) = q.1 := by
 have e : bodyS ts s 10 k = (countedS ts s k).bind fun n k1 => (termsS ts s bEq k1).bind fun a k2 => .ok (([], a, n), k2) := by
  unfold bodyS; rw [if_neg (by decide), if_neg (by decide), if_neg (by decide), if_neg (by decide), if_neg (by decide), if_neg (by decide), if_neg (by decide), if_pos rfl]
 rw [e]
 subst h3 h2
 unfold countedS termsS
 cases e1 : tokS ts s 2 k with
 | error x => exact ⟨rfl, fun q hq => by cases hq⟩
 | ok p =>
   rw [e1] at hn hm
   simp only [Rz.st, Rz.bind, St.then] at hn hm ⊢
   cases e2 : mustS ts s bColon p.2 with
   | error x => exact ⟨rfl, fun q hq => by cases hq⟩
   | ok k2 =>
     rw [e2] at hn hm
     simp only [St.bind, Rz.bind, Rz.st, St.then] at hn hm ⊢
     cases e3 : termS ts s 60 k2 with
     | error x => exact ⟨rfl, fun q hq => by cases hq⟩
     | ok p3 =>
       rw [e3] at hm
       have en := hn p3 e3
       simp only at hm ⊢
       cases e4 : mustS ts s bEq p3.2 with
       | error x => exact ⟨rfl, fun q hq => by cases hq⟩
       | ok k4 =>
         rw [e4] at hm
         simp only at hm ⊢
         cases e5 : termS ts s 60 k4 with
         | error x => exact ⟨rfl, fun q hq => by cases hq⟩
         | ok p5 => exact ⟨rfl, fun q hq => by cases hq; rw [en, hm p5 e5]; rfl⟩
/-- words -/
theorem rlaw1 (k : Nat) (l : List ByteArray) (hl : ∀ q, wordsS ts s k = .ok q → l = q.1) :
  (wordsS ts s k).st = (bodyS ts s 1 k).st ∧ ∀ q, bodyS ts s 1 k = .ok q → (l, Ns.ofL [], (0 : Int)) = q.1 := by
 have e : bodyS ts s 1 k = (wordsS ts s k).bind fun l k1 => .ok ((l, .nil, 0), k1) := by unfold bodyS; rw [if_pos rfl]
 rw [e]
 cases e1 : wordsS ts s k with
 | error x => exact ⟨rfl, fun q hq => by cases hq⟩
 | ok p => exact ⟨rfl, fun q hq => by cases hq; rw [hl p e1]; rfl⟩
/-- a chain -/
theorem rlaw6 (k : Nat) (l : List ByteArray) (hl : ∀ q, chainS ts s k = .ok q → l = q.1) :
  (chainS ts s k).st = (bodyS ts s 6 k).st ∧ ∀ q, bodyS ts s 6 k = .ok q → (l, Ns.ofL [], (0 : Int)) = q.1 := by
 have e : bodyS ts s 6 k = (chainS ts s k).bind fun l k1 => .ok ((l, .nil, 0), k1) := by
  unfold bodyS; rw [if_neg (by decide), if_neg (by decide), if_neg (by decide), if_neg (by decide), if_pos rfl]
 rw [e]
 cases e1 : chainS ts s k with
 | error x => exact ⟨rfl, fun q hq => by cases hq⟩
 | ok p => exact ⟨rfl, fun q hq => by cases hq; rw [hl p e1]; rfl⟩
end
end Go.Proofs.Ytboeeaekhijboaa
namespace Go.Proofs.Ytboeeaekhijboaa
open Go.RowKit
set_option linter.unusedVariables false
set_option linter.unusedSimpArgs false

/-- an item was read, or a fault lies there -/
def RIOut (w : World) (tb : Nat) (v : Value) (ts : List Tok) (s : ByteArray) (r : Rz It) (e : Ending) (w' : World) : Prop :=
 (∃ u x, e = .returned u ∧ IV w' (fun x => w.heap.size ≤ x ∧ x < w'.heap.size) u x ∧ ∀ q, r = .ok q → x = q.1) ∧ RS w' tb v ts s r.st ∧ Chg (fun x => x = tb) w w'

/-- the word, or the number, behind the word that begins an item has been read -/
def RStart (w wx : World) (tb : Nat) (v : Value) (ts : List Tok) (s : ByteArray) (A X bo : Nat) (kd at0 : Int) (k : Nat) : Prop :=
 ((kd ≤ 7 ∨ kd = 12) ∧ RW w wx tb v ts s A X bo kd at0 (tokS ts s 1 (k + 1)).st [(tokOf (tokS ts s 1 (k + 1))).2.1]) ∨ (¬ (kd ≤ 7 ∨ kd = 12) ∧ RN w wx tb v ts s A X bo kd (numV (tokOf (tokS ts s 2 (k + 1)))) at0 (tokS ts s 2 (k + 1)).st [] [])
theorem rstart_x {w wx : World} {tb : Nat} {v : Value} {ts : List Tok} {s : ByteArray} {A X bo : Nat} {kd at0 : Int} {k : Nat} (h : RStart w wx tb v ts s A X bo kd at0 k) : ∃ u1 u2 n, wx.heap[X]? = some (.cells #[.int .i64 kd, u1, u2, .int .i64 n, .int .i64 at0] 42) := by
 rcases h with ⟨_, u1, _, _, h, _⟩ | ⟨_, u1, u2, us, _, _, h, _⟩
 ·
  exact ⟨_, _, _, h.out⟩
 ·
  exact ⟨_, _, _, h.out⟩
/-- what the loops over words keep -/
def RWInv (w wr : World) (tb : Nat) (v : Value) (ts : List Tok) (s : ByteArray) (A X bo : Nat) (kd at0 : Int) (more : Nat → List ByteArray → Nat → Rz (List ByteArray)) (R : Rz (List ByteArray)) (g : Nat) : Prop :=
 ∃ (st : St) (l : List ByteArray), Hid (RW w wr tb v ts s A X bo kd at0 st l) ∧
  Hid ((∃ k f, st = .ok k ∧ R = more f l k ∧ ts.length + 1 - k ≤ f ∧ g = ts.length + 2 - k) ∨ (∃ x, st = .error x ∧ R = .error x ∧ g = 0)) ∧ Hid (l.length + g ≤ ts.length + 4)
theorem num_tok {ts : List Tok} {s : ByteArray} (h : ∀ t ∈ ts, t.1 = 2 → numB t.2.1 = true) (k : Nat) :
  (tokOf (tokS ts s 2 k)).2.1.size ≤ 9 ∧ runLen isDigit (tokOf (tokS ts s 2 k)).2.1.data.toList = (tokOf (tokS ts s 2 k)).2.1.size ∧ ((valL (tokOf (tokS ts s 2 k)).2.1.data.toList 0 : Nat) : Int) = numV (tokOf (tokS ts s 2 k)) := by
 unfold tokS
 by_cases h2 : (tokAt ts s k 0).1 = 2
 ·
  rw [if_pos h2]
  have hlt : k < ts.length := tokAt_len (s := s) (by rw [h2]; decide)
  have hb : numB (tokAt ts s k 0).2.1 = true := by
   by_cases hl : (ts.length : Int) - k ≤ 0
   ·
    omega
   ·
    have e : tokAt ts s k 0 = ts[k] := tokAt_in (by omega) (by omega) hlt
    rw [e] at h2 ⊢
    exact h _ (List.getElem_mem _) h2
  show (tokAt ts s k 0).2.1.size ≤ 9 ∧ runLen isDigit (tokAt ts s k 0).2.1.data.toList = (tokAt ts s k 0).2.1.size ∧ ((valL (tokAt ts s k 0).2.1.data.toList 0 : Nat) : Int) = numV (tokAt ts s k 0)
  have hv : numV (tokAt ts s k 0) = (valL (tokAt ts s k 0).2.1.data.toList 0 : Int) := by unfold numV; rw [if_pos ⟨h2, hb⟩]
  rw [hv]
  unfold numB at hb
  simp only [Bool.and_eq_true, beq_iff_eq, decide_eq_true_eq] at hb
  refine ⟨by omega, by omega, rfl⟩
 ·
  rw [if_neg h2]
  exact ⟨Nat.zero_le _, rfl, rfl⟩
/-- a word was put behind the others -/
theorem rw_app {w v6 v8 : World} {tb : Nat} {v : Value} {ts : List Tok} {s : ByteArray} {A X bo : Nat} {kd at0 : Int} {st : St} {l : List ByteArray} {u1 : Value} {x : ByteArray} {gg cap2 : Nat} (hd : tb < A ∧ A < X ∧ X < bo ∧ w.heap.size = A)
  (hX : v6.heap[X]? = some (.cells #[.int .i64 kd, u1, .slice none 0 0, .int .i64 0, .int .i64 at0] 42)) (hH : RS v6 tb v ts s st) (hB : v6.heap[A]? = some (.cells #[.int .i64 0, .slice none 0 0, .slice none 0 0, .int .i64 0, .int .i64 0] 42)) (hO : v6.ownsRow bo 9 1 u1 l.length (l.map .string)) (hZ : bo ≤ v6.heap.size) (hG : Chg (fun x => x = tb) w v6)
  (hown : v8.ownsRow bo 9 1 (.slice (some ⟨gg, 0, none⟩) (l.length + 1) cap2) (l.length + 1) (l.map .string ++ [.string x])) (hgrow : v6.grownBy v8 u1.ownBlock) :
  RW w (v8.setCell ⟨X, 1, none⟩ (.slice (some ⟨gg, 0, none⟩) (l.length + 1) cap2)) tb v ts s A X bo kd at0 st (l ++ [x]) := by
 have GR := own_grow_chg hO hgrow
 have T8 := GR.blkS (by omega) hX
 have GS := Chg.set v8 X 1 (.slice (some ⟨gg, 0, none⟩) (l.length + 1) cap2)
 have O8 : v8.ownsRow bo 9 1 (.slice (some ⟨gg, 0, none⟩) (l.length + 1) cap2) (l ++ [x]).length ((l ++ [x]).map .string) := by rw [List.length_append, List.map_append]; exact hown
 refine ⟨_, hide ((hH.chg GR (fun x hx e => by omega)).chg GS (fun x hx e => by omega)), hide (GS.blkS (by omega) (GR.blkS (by omega) hB)), hide (blk_set T8 1 _), hide (own_chgS O8 GS (fun x hx e => by omega)), hide (Nat.le_trans hZ (Nat.le_trans GR.size GS.size)), hide ?_⟩
 exact (((hG.mono (T := fun x => x = tb ∨ A ≤ x) (fun x _ h => Or.inl h)).trans (GR.mono (fun x _ h => Or.inr (by omega)))).trans (GS.mono (fun x _ h => Or.inr (by omega)))).mono (fun x hx e => by omega)
/-- a tree was put behind the others -/
theorem rn_app {w v6 v8 : World} {tb : Nat} {v : Value} {ts : List Tok} {s : ByteArray} {A X bo : Nat} {kd num at0 : Int} {st : St} {l : List ByteArray} {ns : List Nd} {us : List Nc} {u1 u2 : Value} {p : Nc} {gg cap2 k : Nat} (hd : tb < A ∧ A < X ∧ X < bo ∧ w.heap.size = A)
  (hX : v6.heap[X]? = some (.cells #[.int .i64 kd, u1, u2, .int .i64 num, .int .i64 at0] 42)) (hH : RS v6 tb v ts s st) (hB : v6.heap[A]? = some (.cells #[.int .i64 0, .slice none 0 0, .slice none 0 0, .int .i64 0, .int .i64 0] 42)) (hS : Sw v6 (fun x => bo ≤ x ∧ x < v6.heap.size ∧ u2.ownBlock ≠ some x) u1 l) (hO : v6.ownsRow bo 55 4 u2 us.length (cellsN us)) (hN : SameN v6 bo u2 ns (us ++ [p])) (hZ : bo ≤ v6.heap.size) (hG : Chg (fun x => x = tb) w v6)
  (hown : v8.ownsRow bo 55 4 (.slice (some ⟨gg, 0, none⟩) (us.length + 1) cap2) (us.length + 1) (cellsN us ++ [.int .i64 p.1, .string p.2.1, .int .i64 p.2.2.1, p.2.2.2])) (hgrow : v6.grownBy v8 u2.ownBlock) (hgat : u2.ownBlock = some gg ∨ gg = k) (hk : v6.heap.size = k) :
  RN w (v8.setCell ⟨X, 2, none⟩ (.slice (some ⟨gg, 0, none⟩) (us.length + 1) cap2)) tb v ts s A X bo kd num at0 st l ns := by
 have GR := (Chg.refl (fun x => u2.ownBlock = some x) v6).grown hgrow (fun r e => Or.inl e)
 have GR2 := own_grow_chg hO hgrow
 have T8 := GR2.blkS (by omega) hX
 have S8 := (hS.chg GR (fun x hx e => hx.2.2 e)).up (Y := fun x => bo ≤ x ∧ x < v8.heap.size ∧ (Value.slice (some ⟨gg, 0, none⟩) (us.length + 1) cap2).ownBlock ≠ some x) (fun x hx => ⟨hx.1, Nat.lt_of_lt_of_le hx.2.1 GR.size, fun e => by
  have h2 : gg = x := Option.some.inj e
  rcases hgat with h | h
  ·
   rw [← h2] at hx; exact hx.2.2 h
  ·
   have := hx.2.1; omega⟩)
 have N8 := hN.grown hgrow (u' := .slice (some ⟨gg, 0, none⟩) (us.length + 1) cap2) (by
  rcases hgat with h | h
  ·
   exact Or.inl (by rw [h]; rfl)
  ·
   exact Or.inr (by rw [h, hk]; rfl))
 have GS := Chg.set v8 X 2 (.slice (some ⟨gg, 0, none⟩) (us.length + 1) cap2)
 have O9 := nacc_snoc (p := p) (own_chgS hown GS (fun x hx e => by omega))
 have N9 := N8.chg GS (fun x hx _ _ e => by omega)
 refine ⟨_, _, _, hide ((hH.chg GR2 (fun x hx e => by omega)).chg GS (fun x hx e => by omega)), hide (GS.blkS (by omega) (GR2.blkS (by omega) hB)), hide (blk_set T8 2 _), hide ((S8.chg GS (fun x hx e => by have := hx.1; omega)).up (fun x hx => ⟨hx.1, Nat.lt_of_lt_of_le hx.2.1 GS.size, hx.2.2⟩)), hide O9, hide N9, hide (Nat.le_trans hZ (Nat.le_trans GR.size GS.size)), hide ?_⟩
 exact (((hG.mono (T := fun x => x = tb ∨ A ≤ x) (fun x _ h => Or.inl h)).trans (GR2.mono (fun x _ h => Or.inr (by omega)))).trans (GS.mono (fun x _ h => Or.inr (by omega)))).mono (fun x hx e => by omega)
theorem infoR55 : (Try.prog.info? 55).map (fun i => (i.zero, i.size, i.bytes)) = some (some (.agg #[.int .i64 0, .string ⟨#[]⟩, .int .i64 0, .slice none 0 0]), 4, 56) := by kernel_rfl
end Go.Proofs.Ytboeeaekhijboaa
