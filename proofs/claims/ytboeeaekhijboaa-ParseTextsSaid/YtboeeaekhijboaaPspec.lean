/- Layer 14 in plain words: types, terms, items among tokens. No program in sight. The program's parser in memory: ok, fail, next, must, token, word. -/
import Derived.Test.YtboeeaekhijboaaNodes
import Derived.Deep.DeepCutAuto
namespace Go.Proofs.Ytboeeaekhijboaa
open Go.RowKit
set_option linter.unusedVariables false
set_option linter.unusedSimpArgs false

/-- a fault: its number, and at which token -/
abbrev Pf := Int × Nat
/-- where one stands, or the first fault -/
abbrev St := Except Pf Nat
def St.pos : St → Nat
 | .ok k => k
 | .error e => e.2
def St.flt : St → Option Pf
 | .ok _ => none
 | .error e => some e
/-- what is read, and where one stands then -/
abbrev Rz (α : Type) := Except Pf (α × Nat)
def Rz.st {α : Type} : Rz α → St
 | .ok q => .ok q.2
 | .error e => .error e
def Rz.bind {α β : Type} : Rz α → (α → Nat → Rz β) → Rz β
 | .ok q, f => f q.1 q.2
 | .error e, _ => .error e
def St.bind {α : Type} : St → (Nat → Rz α) → Rz α
 | .ok k, f => f k
 | .error e, _ => .error e
def St.then : St → (Nat → St) → St
 | .ok k, f => f k
 | .error e, _ => .error e

section
variable (ts : List Tok) (s : ByteArray)
abbrev tk (k : Nat) : Tok := tokAt ts s k 0
/-- is the next token just this? -/
def eatB (t : ByteArray) (k : Nat) : Bool := okTok (tokAt ts s k 0) t
/-- the next token must be this -/
def mustS (t : ByteArray) (k : Nat) : St := if eatB ts s t k = true then .ok (k + 1) else .error (3, k)
/-- the next token must be of a kind -/
def tokS (kind : Int) (k : Nat) : Rz Tok := if (tokAt ts s k 0).1 = kind then .ok (tokAt ts s k 0, k + 1) else .error (3, k)

def bLp : ByteArray := ⟨#[40]⟩
def bRp : ByteArray := ⟨#[41]⟩
def bArrow : ByteArray := ⟨#[45, 62]⟩
def bLam : ByteArray := ⟨#[92]⟩
def bColon : ByteArray := ⟨#[58]⟩
def bDot : ByteArray := ⟨#[46]⟩
def bEq : ByteArray := ⟨#[61]⟩
def bGt : ByteArray := ⟨#[62]⟩
def bSemi : ByteArray := ⟨#[59]⟩
def bNone : ByteArray := ⟨#[]⟩

def twoN (a b : Nd) : Ns := .cons a.kind a.word a.at a.kids (.cons b.kind b.word b.at b.kids .nil)

/-- a name, or what is in parentheses -/
def atomS (inner : Nat → Rz Nd) (k : Nat) : Rz Nd :=
 if eatB ts s bLp k = true then (inner (k + 1)).bind fun n k1 => (mustS ts s bRp k1).bind fun k2 => .ok (n, k2)
 else (tokS ts s 1 k).bind fun t k1 => .ok ((1, t.2.1, (t.2.2 : Int), .nil), k1)

def typS : Nat → Nat → Rz Nd
 | 0, k => .error (2, k)
 | n + 1, k => (atomS ts s (typS n) k).bind fun a k1 =>
   if eatB ts s bArrow k1 = true then (typS n (k1 + 1)).bind fun b k2 => .ok ((2, bNone, a.at, twoN a b), k2)
   else .ok (a, k1)

/-- may the next token begin a part of an application? -/
def partB (k : Nat) : Bool := ((tokAt ts s k 0).1 == 1) || (((tokAt ts s k 0).1 == 3) && ((tokAt ts s k 0).2.1.toList == bLp.toList))
def partsS (inner : Nat → Rz Nd) : Nat → Nd → Nat → Rz Nd
 | 0, n, k => .ok (n, k)
 | f + 1, n, k => if partB ts s k = true then (atomS ts s inner k).bind fun m k1 => partsS inner f (4, bNone, n.at, twoN n m) k1 else .ok (n, k)

/-- a function, behind its sign -/
def lamS (typ term : Nat → Rz Nd) (at' : Int) (k : Nat) : Rz Nd :=
 (tokS ts s 1 k).bind fun w k1 => (mustS ts s bColon k1).bind fun k2 => (typ k2).bind fun a k3 => (mustS ts s bDot k3).bind fun k4 => (term k4).bind fun b k5 => .ok ((3, w.2.1, at', twoN a b), k5)

def termS : Nat → Nat → Rz Nd
 | 0, k => .error (2, k)
 | n + 1, k =>
   if eatB ts s bLam k = true then lamS ts s (typS ts s n) (termS n) ((tokAt ts s k 0).2.2 : Int) (k + 1)
   else (atomS ts s (termS n) k).bind fun a k1 => partsS ts s (termS n) (ts.length + 1 - k1) a k1
end

/-- what is read begins behind where one stood, and ends within the text -/
def Fwd (ts : List Tok) (f : Nat → Rz Nd) : Prop := ∀ k, k ≤ ts.length → match f k with
 | .ok q => k < q.2 ∧ q.2 ≤ ts.length
 | .error e => k ≤ e.2 ∧ e.2 ≤ ts.length

theorem tokAt_len {ts : List Tok} {s : ByteArray} {k : Nat} (h : (tokAt ts s k 0).1 ≠ 4) : k < ts.length := by
 apply Classical.byContradiction
 intro hn
 exact h (by rw [tokAt_end (Or.inr (by omega))])
theorem eatB_lt {ts : List Tok} {s t : ByteArray} {k : Nat} (h : eatB ts s t k = true) : k < ts.length := by
 apply tokAt_len (s := s)
 intro e
 unfold eatB okTok at h
 rw [e] at h
 simp at h
theorem tokS_lt {ts : List Tok} {s : ByteArray} {kind : Int} {k : Nat} (hk : kind ≠ 4) (hkl : k ≤ ts.length) : match tokS ts s kind k with
  | .ok q => q.2 = k + 1 ∧ k < ts.length
  | .error e => e = (3, k) := by
 unfold tokS
 by_cases h : (tokAt ts s k 0).1 = kind
 ·
  rw [if_pos h]; exact ⟨rfl, tokAt_len (s := s) (by rw [h]; exact hk)⟩
 ·
  rw [if_neg h]
theorem mustS_lt {ts : List Tok} {s t : ByteArray} {k : Nat} : match mustS ts s t k with
  | .ok q => q = k + 1 ∧ k < ts.length
  | .error e => e = (3, k) := by
 unfold mustS
 by_cases h : eatB ts s t k = true
 ·
  rw [if_pos h]; exact ⟨rfl, eatB_lt h⟩
 ·
  rw [if_neg h]

theorem atomS_fwd {ts : List Tok} {s : ByteArray} {inner : Nat → Rz Nd} (h : Fwd ts inner) : Fwd ts (atomS ts s inner) := by
 intro k hk
 unfold atomS
 by_cases h1 : eatB ts s bLp k = true
 ·
  have hlt := eatB_lt h1
  have hi := h (k + 1) hlt
  rw [if_pos h1]
  cases e : inner (k + 1) with
  | error x => rw [e] at hi; simp only [Rz.bind]; exact ⟨by have := hi.1; omega, hi.2⟩
  | ok q =>
    rw [e] at hi
    simp only [Rz.bind]
    have hm := mustS_lt (ts := ts) (s := s) (t := bRp) (k := q.2)
    cases e2 : mustS ts s bRp q.2 with
    | error x => rw [e2] at hm; simp only [St.bind]; rw [hm]; exact ⟨by have := hi.1; omega, hi.2⟩
    | ok k2 => rw [e2] at hm; simp only [St.bind]; dsimp only at hi hm; exact ⟨by omega, by omega⟩
 ·
  rw [if_neg h1]
  have ht := tokS_lt (ts := ts) (s := s) (kind := 1) (k := k) (by decide) hk
  cases e : tokS ts s 1 k with
  | error x => rw [e] at ht; simp only [Rz.bind]; rw [ht]; exact ⟨Nat.le_refl _, hk⟩
  | ok q => rw [e] at ht; simp only [Rz.bind]; dsimp only at ht; exact ⟨by omega, by omega⟩
theorem typS_fwd (ts : List Tok) (s : ByteArray) : ∀ n, Fwd ts (typS ts s n)
 | 0, k, hk => by simp only [typS]; exact ⟨Nat.le_refl _, hk⟩
 | n + 1, k, hk => by
   have ha := atomS_fwd (s := s) (typS_fwd ts s n) k hk
   simp only [typS]
   cases e : atomS ts s (typS ts s n) k with
   | error x => rw [e] at ha; exact ha
   | ok q =>
     rw [e] at ha
     simp only [Rz.bind]
     dsimp only at ha
     by_cases h1 : eatB ts s bArrow q.2 = true
     ·
      rw [if_pos h1]
      have hlt := eatB_lt h1
      have ht := typS_fwd ts s n (q.2 + 1) hlt
      cases e2 : typS ts s n (q.2 + 1) with
      | error x => rw [e2] at ht; dsimp only [Rz.bind] at ht ⊢; exact ⟨by omega, by omega⟩
      | ok q2 => rw [e2] at ht; dsimp only [Rz.bind] at ht ⊢; exact ⟨by omega, by omega⟩
     ·
      rw [if_neg h1]; exact ha
theorem partsS_fwd (ts : List Tok) (s : ByteArray) {inner : Nat → Rz Nd} (h : Fwd ts inner) : ∀ f (n : Nd) k, k ≤ ts.length → match partsS ts s inner f n k with
  | .ok q => k ≤ q.2 ∧ q.2 ≤ ts.length
  | .error e => k ≤ e.2 ∧ e.2 ≤ ts.length
 | 0, n, k, hk => ⟨Nat.le_refl _, hk⟩
 | f + 1, n, k, hk => by
   simp only [partsS]
   by_cases h1 : partB ts s k = true
   ·
    rw [if_pos h1]
    have ha := atomS_fwd (s := s) h k hk
    cases e : atomS ts s inner k with
    | error x => rw [e] at ha; exact ha
    | ok q =>
      rw [e] at ha
      simp only [Rz.bind]
      dsimp only at ha
      have hp := partsS_fwd ts s h f (4, bNone, n.at, twoN n q.1) q.2 ha.2
      cases e2 : partsS ts s inner f (4, bNone, n.at, twoN n q.1) q.2 with
      | error x => rw [e2] at hp; dsimp only at hp ⊢; exact ⟨by omega, by omega⟩
      | ok q2 => rw [e2] at hp; dsimp only at hp ⊢; exact ⟨by omega, by omega⟩
   ·
    rw [if_neg h1]; exact ⟨Nat.le_refl _, hk⟩
theorem lamS_fwd (ts : List Tok) (s : ByteArray) {typ term : Nat → Rz Nd} (h1 : Fwd ts typ) (h2 : Fwd ts term) (at' : Int) : Fwd ts (lamS ts s typ term at') := by
 intro k hk
 unfold lamS
 have ht := tokS_lt (ts := ts) (s := s) (kind := 1) (k := k) (by decide) hk
 cases e : tokS ts s 1 k with
 | error x => rw [e] at ht; dsimp only at ht; simp only [Rz.bind]; rw [ht]; exact ⟨Nat.le_refl _, hk⟩
 | ok q =>
   rw [e] at ht
   dsimp only at ht
   simp only [Rz.bind]
   have hm := mustS_lt (ts := ts) (s := s) (t := bColon) (k := q.2)
   cases e2 : mustS ts s bColon q.2 with
   | error x => rw [e2] at hm; dsimp only at hm; simp only [St.bind]; rw [hm]; exact ⟨by show k ≤ q.2; omega, by show q.2 ≤ ts.length; omega⟩
   | ok k2 =>
     rw [e2] at hm
     dsimp only at hm
     simp only [St.bind]
     have ha := h1 k2 (by omega)
     cases e3 : typ k2 with
     | error x => rw [e3] at ha; dsimp only at ha; simp only [Rz.bind]; exact ⟨by omega, ha.2⟩
     | ok q3 =>
       rw [e3] at ha
       dsimp only at ha
       simp only [Rz.bind]
       have hm4 := mustS_lt (ts := ts) (s := s) (t := bDot) (k := q3.2)
       cases e4 : mustS ts s bDot q3.2 with
       | error x => rw [e4] at hm4; dsimp only at hm4; simp only [St.bind]; rw [hm4]; exact ⟨by show k ≤ q3.2; omega, by show q3.2 ≤ ts.length; omega⟩
       | ok k4 =>
         rw [e4] at hm4
         dsimp only at hm4
         simp only [St.bind]
         have hb := h2 k4 (by omega)
         cases e5 : term k4 with
         | error x => rw [e5] at hb; dsimp only at hb; simp only [Rz.bind]; exact ⟨by omega, hb.2⟩
         | ok q5 => rw [e5] at hb; dsimp only at hb; simp only [Rz.bind]; exact ⟨by omega, hb.2⟩
theorem termS_fwd (ts : List Tok) (s : ByteArray) : ∀ n, Fwd ts (termS ts s n)
 | 0, k, hk => by simp only [termS]; exact ⟨Nat.le_refl _, hk⟩
 | n + 1, k, hk => by
   simp only [termS]
   by_cases h1 : eatB ts s bLam k = true
   ·
    rw [if_pos h1]
    have hlt := eatB_lt h1
    have hl := lamS_fwd ts s (typS_fwd ts s n) (termS_fwd ts s n) ((tokAt ts s k 0).2.2 : Int) (k + 1) hlt
    cases e : lamS ts s (typS ts s n) (termS ts s n) ((tokAt ts s k 0).2.2 : Int) (k + 1) with
    | error x => rw [e] at hl; dsimp only at hl ⊢; exact ⟨by omega, hl.2⟩
    | ok q => rw [e] at hl; dsimp only at hl ⊢; exact ⟨by omega, hl.2⟩
   ·
    rw [if_neg h1]
    have ha := atomS_fwd (s := s) (termS_fwd ts s n) k hk
    cases e : atomS ts s (termS ts s n) k with
    | error x => rw [e] at ha; exact ha
    | ok q =>
      rw [e] at ha
      simp only [Rz.bind]
      dsimp only at ha
      have hp := partsS_fwd ts s (termS_fwd ts s n) (ts.length + 1 - q.2) q.1 q.2 ha.2
      cases e2 : partsS ts s (termS ts s n) (ts.length + 1 - q.2) q.1 q.2 with
      | error x => rw [e2] at hp; dsimp only at hp ⊢; exact ⟨by omega, hp.2⟩
      | ok q2 => rw [e2] at hp; dsimp only at hp ⊢; exact ⟨by omega, hp.2⟩
end Go.Proofs.Ytboeeaekhijboaa
namespace Go.Proofs.Ytboeeaekhijboaa
open Go.RowKit
set_option linter.unusedVariables false
set_option linter.unusedSimpArgs false

/-- a fault as the program tells it -/
def fl4 (ts : List Tok) (s : ByteArray) : Option Pf → Int × Int × Int × ByteArray
 | none => (0, 0, 0, ⟨#[]⟩)
 | some e => (e.1, (markAt ts s e.2).1, (markAt ts s e.2).2, headOf (tokAt ts s e.2 0).2.1)
/-- what stays: the tokens, their bounds -/
structure Env (rb pb : Nat) (ts : List Tok) (s : ByteArray) : Prop where
 lt : rb < pb
 len : ts.length ≤ 20000
 size : s.size ≤ 20000
 at' : ∀ t ∈ ts, t.2.2 ≤ s.size
 tx : ∀ t ∈ ts, t.2.1.size ≤ 1000000
/-- a parser in memory -/
structure PS (w : World) (rb pb : Nat) (v : Value) (ts : List Tok) (s : ByteArray) (o : Nat) (st : St) : Prop where
 blk : w.heap[pb]? = some (.cells #[.pointer (some ⟨rb, 0, none⟩), .int .i64 (o : Int), .int .i64 (fl4 ts s st.flt).1, .int .i64 (fl4 ts s st.flt).2.1, .int .i64 (fl4 ts s st.flt).2.2.1, .string (fl4 ts s st.flt).2.2.2] 79)
 rd : Rd w rb 106 v s st.pos
 tks : Tks w rb v ts
 le : st.pos ≤ ts.length
 env : Env rb pb ts s
 code : ∀ e, st.flt = some e → e.1 = 2 ∨ e.1 = 3

abbrev Pw (rb pb : Nat) : Nat → Prop := fun x => x = pb ∨ x = rb
theorem PS.chg {w w' : World} {rb pb : Nat} {v : Value} {ts : List Tok} {s : ByteArray} {o : Nat} {st : St} (h : PS w rb pb v ts s o st) {S : Nat → Prop} (g : Chg S w w') (hn : ∀ x, x ≤ pb → ¬ S x) : PS w' rb pb v ts s o st := by
 have hl := h.env.lt
 exact ⟨g.blkS (hn pb (Nat.le_refl _)) h.blk, h.rd.chg g (hn rb (by omega)), h.tks.chg g (fun k hk => hn k (by omega)), h.le, h.env, h.code⟩
theorem PS.lt {w : World} {rb pb : Nat} {v : Value} {ts : List Tok} {s : ByteArray} {o : Nat} {st : St} (h : PS w rb pb v ts s o st) : rb < pb ∧ pb < w.heap.size := ⟨h.env.lt, olt h.blk⟩
/-- the reader alone has moved -/
theorem PS.moved {w w' : World} {rb pb : Nat} {v : Value} {ts : List Tok} {s : ByteArray} {o k k' : Nat} (h : PS w rb pb v ts s o (.ok k)) (g : Chg (fun x => x = rb) w w') (hr : Rd w' rb 106 v s k') (hk : k' ≤ ts.length) : PS w' rb pb v ts s o (.ok k') := by
 have hl := h.env.lt
 exact ⟨g.blkS (by omega) h.blk, hr, h.tks.chg g (fun k hk => by omega), hk, h.env, h.code⟩
/-- a fault is laid down -/
theorem PS.faulted {w w' : World} {rb pb : Nat} {v : Value} {ts : List Tok} {s : ByteArray} {o k : Nat} (h : PS w rb pb v ts s o (.ok k)) (c : Int) (hc : c = 2 ∨ c = 3) (g : Chg (fun x => x = pb) w w')
  (hb : w'.heap[pb]? = some (.cells #[.pointer (some ⟨rb, 0, none⟩), .int .i64 (o : Int), .int .i64 c, .int .i64 (markAt ts s k).1, .int .i64 (markAt ts s k).2, .string (headOf (tokAt ts s k 0).2.1)] 79)) : PS w' rb pb v ts s o (.error (c, k)) := by
 have hl := h.env.lt
 exact ⟨hb, h.rd.chg g (by omega), h.tks.chg g (fun k hk => by omega), h.le, h.env, fun e he => by cases he; exact hc⟩
theorem PS.opened {w : World} {rb pb : Nat} {v : Value} {ts : List Tok} {s : ByteArray} {o o' : Nat} {st : St} (h : PS w rb pb v ts s o st) (z : Int) (hz : z = (o' : Int)) : PS (w.setCell ⟨pb, 1, none⟩ (.int .i64 z)) rb pb v ts s o' st := by
 have hl := h.env.lt
 have g := Chg.set w pb 1 (.int .i64 z)
 subst hz
 exact ⟨blk_set h.blk 1 (.int .i64 (o' : Int)), h.rd.chg g (by omega), h.tks.chg g (fun k hk => by omega), h.le, h.env, h.code⟩

/-- the parser's cells -/
theorem PS.cells {w : World} {rb pb : Nat} {v : Value} {ts : List Tok} {s : ByteArray} {o : Nat} {st : St} (h : PS w rb pb v ts s o st) :
  w.cell? ⟨pb, 0, none⟩ = some (.pointer (some ⟨rb, 0, none⟩)) ∧ w.cell? ⟨pb, 1, none⟩ = some (.int .i64 (o : Int)) ∧ w.cell? ⟨pb, 2, none⟩ = some (.int .i64 (fl4 ts s st.flt).1) ∧ w.cell? ⟨pb, 3, none⟩ = some (.int .i64 (fl4 ts s st.flt).2.1) ∧ w.cell? ⟨pb, 4, none⟩ = some (.int .i64 (fl4 ts s st.flt).2.2.1) ∧ w.cell? ⟨pb, 5, none⟩ = some (.string (fl4 ts s st.flt).2.2.2) :=
 ⟨blk_cell h.blk 0, blk_cell h.blk 1, blk_cell h.blk 2, blk_cell h.blk 3, blk_cell h.blk 4, blk_cell h.blk 5⟩

theorem ok_ok {rb pb : Nat} {v : Value} {ts : List Tok} {s : ByteArray} {o k : Nat} {w : World} (h : PS w rb pb v ts s o (.ok k)) :
  Calls Try.prog 31 #[.pointer (some ⟨pb, 0, none⟩)] w fun e w' => e = .returned (.bool true) ∧ w = w' := by
 have c2 : w.cell? ⟨pb, 2, none⟩ = some (.int .i64 0) := h.cells.2.2.1
 clear h
 go_enter Try.func31, Try.ntmps31
 go_wp2_with fail
 go_ret
 exact ⟨rfl, rfl⟩
theorem ok_err {rb pb : Nat} {v : Value} {ts : List Tok} {s : ByteArray} {o : Nat} {x : Pf} {w : World} (h : PS w rb pb v ts s o (.error x)) :
  Calls Try.prog 31 #[.pointer (some ⟨pb, 0, none⟩)] w fun e w' => e = .returned (.bool false) ∧ w = w' := by
 have c2 : w.cell? ⟨pb, 2, none⟩ = some (.int .i64 x.1) := h.cells.2.2.1
 have hc := h.code x rfl
 have h0 : (x.1 == 0) = false := by rcases hc with h | h <;> rw [h] <;> rfl
 clear h hc
 go_enter Try.func31, Try.ntmps31
 go_wp2_with fail
 go_ret
 exact ⟨rfl, rfl⟩

set_option maxRecDepth 100000 in
theorem fail_ok {rb pb : Nat} {v : Value} {ts : List Tok} {s : ByteArray} {o k : Nat} (c : Int) (hc : c = 2 ∨ c = 3) {w : World} (h : PS w rb pb v ts s o (.ok k)) :
  Calls Try.prog 33 #[.pointer (some ⟨pb, 0, none⟩), .int .i64 c] w fun e w' => e = .returned (.tuple #[]) ∧ PS w' rb pb v ts s o (.error (c, k)) ∧ Chg (fun x => x = pb) w w' := by
 have HP := hide h
 have OK := hide (ok_ok h)
 have FA := hide (fun w' (h : PS w' rb pb v ts s o (.ok k)) => fail_some rb rb v ts s k c h.le (by have := h.env.len; omega) (by have := h.env.size; omega) h.env.at' h.env.tx w' h.rd h.tks)
 have c0 := h.cells.1
 clear h
 go_enter Try.func33, Try.ntmps33
 go_wp2_with fail
 refine OK.out.mono ?_
 rintro e w' ⟨rfl, rfl⟩
 go_wp2_with fail
 refine (FA.out w HP.out).mono ?_
 rintro e w1 ⟨rfl, g1⟩
 have h1 := hide (HP.out.chg g1 (fun _ _ h => h))
 have G1 := hide g1
 have hb := h1.out.blk
 have x2 := blk_free hb 2
 have x3 := blk_free hb 3
 have x4 := blk_free hb 4
 have x5 := blk_free hb 5
 obtain ⟨c0, c1, c2, c3, c4, c5⟩ := h1.out.cells
 have F := hide (h1.out.faulted c hc ((((Chg.set w1 pb 2 (.int .i64 c)).trans (Chg.set _ pb 3 (.int .i64 (markAt ts s k).1))).trans (Chg.set _ pb 4 (.int .i64 (markAt ts s k).2))).trans (Chg.set _ pb 5 (.string (headOf (tokAt ts s k 0).2.1)))) (blk_set (blk_set (blk_set (blk_set hb 2 (.int .i64 c)) 3 (.int .i64 (markAt ts s k).1)) 4 (.int .i64 (markAt ts s k).2)) 5 (.string (headOf (tokAt ts s k 0).2.1))))
 have G := hide (G1.out.none.trans ((((Chg.set w1 pb 2 (.int .i64 c)).trans (Chg.set _ pb 3 (.int .i64 (markAt ts s k).1))).trans (Chg.set _ pb 4 (.int .i64 (markAt ts s k).2))).trans (Chg.set _ pb 5 (.string (headOf (tokAt ts s k 0).2.1)))))
 clear hb g1 FA OK
 go_wp2_with fail
 go_end0
 exact ⟨rfl, F.out, G.out⟩
theorem fail_err {rb pb : Nat} {v : Value} {ts : List Tok} {s : ByteArray} {o : Nat} {x : Pf} (c : Int) {w : World} (h : PS w rb pb v ts s o (.error x)) :
  Calls Try.prog 33 #[.pointer (some ⟨pb, 0, none⟩), .int .i64 c] w fun e w' => e = .returned (.tuple #[]) ∧ w = w' := by
 have OK := hide (ok_err h)
 clear h
 go_enter Try.func33, Try.ntmps33
 go_wp2_with fail
 refine OK.out.mono ?_
 rintro e w' ⟨rfl, rfl⟩
 go_wp2_with fail
 go_end0
 exact ⟨rfl, rfl⟩
end Go.Proofs.Ytboeeaekhijboaa
