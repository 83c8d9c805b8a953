/- The program's parser in memory: ok, fail, next, must, token, word. -/
import Derived.Test.YtboeeaekhijboaaPspec
import Derived.Deep.DeepCutAuto
namespace Go.Proofs.Ytboeeaekhijboaa
open Go.RowKit
set_option linter.unusedVariables false
set_option linter.unusedSimpArgs false

/-- a fault as the program tells it -/
def fl4 (ts : List Tok) (s : ByteArray) : Option Pf → Int × Int × Int × ByteArray
  | none => (0, 0, 0, ⟨#[]⟩)
  | some e => (e.1, (markAt ts s e.2).1, (markAt ts s e.2).2, headOf (tokAt ts s e.2 0).2.1)
/-- what stays: the tokens, their bounds -/
structure Env (rb pb : Nat) (ts : List Tok) (s : ByteArray) : Prop where
  lt : rb < pb
  len : ts.length ≤ 20000
  size : s.size ≤ 20000
  at' : ∀ t ∈ ts, t.2.2 ≤ s.size
  tx : ∀ t ∈ ts, t.2.1.size ≤ 1000000
/-- a parser in memory -/
structure PS (w : World) (rb pb : Nat) (v : Value) (ts : List Tok) (s : ByteArray) (o : Nat) (st : St) : Prop where
  blk : w.heap[pb]? = some (.cells #[.pointer (some ⟨rb, 0, none⟩), .int .i64 (o : Int), .int .i64 (fl4 ts s st.flt).1, .int .i64 (fl4 ts s st.flt).2.1, .int .i64 (fl4 ts s st.flt).2.2.1, .string (fl4 ts s st.flt).2.2.2] 79)
  rd : Rd w rb 106 v s st.pos
  tks : Tks w rb v ts
  le : st.pos ≤ ts.length
  env : Env rb pb ts s
  code : ∀ e, st.flt = some e → e.1 = 2 ∨ e.1 = 3

abbrev Pw (rb pb : Nat) : Nat → Prop := fun x => x = pb ∨ x = rb
theorem PS.chg {w w' : World} {rb pb : Nat} {v : Value} {ts : List Tok} {s : ByteArray} {o : Nat} {st : St} (h : PS w rb pb v ts s o st) {S : Nat → Prop} (g : Chg S w w') (hn : ∀ x, x ≤ pb → ¬ S x) : PS w' rb pb v ts s o st := by
  have hl := h.env.lt
  exact ⟨g.blkS (hn pb (Nat.le_refl _)) h.blk, h.rd.chg g (hn rb (by omega)), h.tks.chg g (fun k hk => hn k (by omega)), h.le, h.env, h.code⟩
theorem PS.lt {w : World} {rb pb : Nat} {v : Value} {ts : List Tok} {s : ByteArray} {o : Nat} {st : St} (h : PS w rb pb v ts s o st) : rb < pb ∧ pb < w.heap.size := ⟨h.env.lt, olt h.blk⟩
/-- the reader alone has moved -/
theorem PS.moved {w w' : World} {rb pb : Nat} {v : Value} {ts : List Tok} {s : ByteArray} {o k k' : Nat} (h : PS w rb pb v ts s o (.ok k)) (g : Chg (fun x => x = rb) w w') (hr : Rd w' rb 106 v s k') (hk : k' ≤ ts.length) : PS w' rb pb v ts s o (.ok k') := by
  have hl := h.env.lt
  exact ⟨g.blkS (by omega) h.blk, hr, h.tks.chg g (fun k hk => by omega), hk, h.env, h.code⟩
/-- a fault is laid down -/
theorem PS.faulted {w w' : World} {rb pb : Nat} {v : Value} {ts : List Tok} {s : ByteArray} {o k : Nat} (h : PS w rb pb v ts s o (.ok k)) (c : Int) (hc : c = 2 ∨ c = 3) (g : Chg (fun x => x = pb) w w')
    (hb : w'.heap[pb]? = some (.cells #[.pointer (some ⟨rb, 0, none⟩), .int .i64 (o : Int), .int .i64 c, .int .i64 (markAt ts s k).1, .int .i64 (markAt ts s k).2, .string (headOf (tokAt ts s k 0).2.1)] 79)) : PS w' rb pb v ts s o (.error (c, k)) := by
  have hl := h.env.lt
  exact ⟨hb, h.rd.chg g (by omega), h.tks.chg g (fun k hk => by omega), h.le, h.env, fun e he => by cases he; exact hc⟩
theorem PS.opened {w : World} {rb pb : Nat} {v : Value} {ts : List Tok} {s : ByteArray} {o o' : Nat} {st : St} (h : PS w rb pb v ts s o st) (z : Int) (hz : z = (o' : Int)) : PS (w.setCell ⟨pb, 1, none⟩ (.int .i64 z)) rb pb v ts s o' st := by
  have hl := h.env.lt
  have g := Chg.set w pb 1 (.int .i64 z)
  subst hz
  exact ⟨blk_set h.blk 1 (.int .i64 (o' : Int)), h.rd.chg g (by omega), h.tks.chg g (fun k hk => by omega), h.le, h.env, h.code⟩

/-- the parser's cells -/
theorem PS.cells {w : World} {rb pb : Nat} {v : Value} {ts : List Tok} {s : ByteArray} {o : Nat} {st : St} (h : PS w rb pb v ts s o st) :
    w.cell? ⟨pb, 0, none⟩ = some (.pointer (some ⟨rb, 0, none⟩)) ∧ w.cell? ⟨pb, 1, none⟩ = some (.int .i64 (o : Int)) ∧ w.cell? ⟨pb, 2, none⟩ = some (.int .i64 (fl4 ts s st.flt).1) ∧ w.cell? ⟨pb, 3, none⟩ = some (.int .i64 (fl4 ts s st.flt).2.1) ∧ w.cell? ⟨pb, 4, none⟩ = some (.int .i64 (fl4 ts s st.flt).2.2.1) ∧ w.cell? ⟨pb, 5, none⟩ = some (.string (fl4 ts s st.flt).2.2.2) :=
  ⟨blk_cell h.blk 0, blk_cell h.blk 1, blk_cell h.blk 2, blk_cell h.blk 3, blk_cell h.blk 4, blk_cell h.blk 5⟩

theorem ok_ok {rb pb : Nat} {v : Value} {ts : List Tok} {s : ByteArray} {o k : Nat} {w : World} (h : PS w rb pb v ts s o (.ok k)) :
    Calls Try.prog 31 #[.pointer (some ⟨pb, 0, none⟩)] w fun e w' => e = .returned (.bool true) ∧ w = w' := by
  have c2 : w.cell? ⟨pb, 2, none⟩ = some (.int .i64 0) := h.cells.2.2.1
  clear h
  go_enter Try.func31, Try.ntmps31
  go_wp2_with fail
  go_ret
  exact ⟨rfl, rfl⟩
theorem ok_err {rb pb : Nat} {v : Value} {ts : List Tok} {s : ByteArray} {o : Nat} {x : Pf} {w : World} (h : PS w rb pb v ts s o (.error x)) :
    Calls Try.prog 31 #[.pointer (some ⟨pb, 0, none⟩)] w fun e w' => e = .returned (.bool false) ∧ w = w' := by
  have c2 : w.cell? ⟨pb, 2, none⟩ = some (.int .i64 x.1) := h.cells.2.2.1
  have hc := h.code x rfl
  have h0 : (x.1 == 0) = false := by rcases hc with h | h <;> rw [h] <;> rfl
  clear h hc
  go_enter Try.func31, Try.ntmps31
  go_wp2_with fail
  go_ret
  exact ⟨rfl, rfl⟩

set_option maxRecDepth 100000 in
theorem fail_ok {rb pb : Nat} {v : Value} {ts : List Tok} {s : ByteArray} {o k : Nat} (c : Int) (hc : c = 2 ∨ c = 3) {w : World} (h : PS w rb pb v ts s o (.ok k)) :
    Calls Try.prog 33 #[.pointer (some ⟨pb, 0, none⟩), .int .i64 c] w fun e w' => e = .returned (.tuple #[]) ∧ PS w' rb pb v ts s o (.error (c, k)) ∧ Chg (fun x => x = pb) w w' := by
  have HP := hide h
  have OK := hide (ok_ok h)
  have FA := hide (fun w' (h : PS w' rb pb v ts s o (.ok k)) => fail_some rb rb v ts s k c h.le (by have := h.env.len; omega) (by have := h.env.size; omega) h.env.at' h.env.tx w' h.rd h.tks)
  have c0 := h.cells.1
  clear h
  go_enter Try.func33, Try.ntmps33
  go_wp2_with fail
  refine OK.out.mono ?_
  rintro e w' ⟨rfl, rfl⟩
  go_wp2_with fail
  refine (FA.out w HP.out).mono ?_
  rintro e w1 ⟨rfl, g1⟩
  have h1 := hide (HP.out.chg g1 (fun _ _ h => h))
  have G1 := hide g1
  have hb := h1.out.blk
  have x2 := blk_free hb 2
  have x3 := blk_free hb 3
  have x4 := blk_free hb 4
  have x5 := blk_free hb 5
  obtain ⟨c0, c1, c2, c3, c4, c5⟩ := h1.out.cells
  have F := hide (h1.out.faulted c hc ((((Chg.set w1 pb 2 (.int .i64 c)).trans (Chg.set _ pb 3 (.int .i64 (markAt ts s k).1))).trans (Chg.set _ pb 4 (.int .i64 (markAt ts s k).2))).trans (Chg.set _ pb 5 (.string (headOf (tokAt ts s k 0).2.1)))) (blk_set (blk_set (blk_set (blk_set hb 2 (.int .i64 c)) 3 (.int .i64 (markAt ts s k).1)) 4 (.int .i64 (markAt ts s k).2)) 5 (.string (headOf (tokAt ts s k 0).2.1))))
  have G := hide (G1.out.none.trans ((((Chg.set w1 pb 2 (.int .i64 c)).trans (Chg.set _ pb 3 (.int .i64 (markAt ts s k).1))).trans (Chg.set _ pb 4 (.int .i64 (markAt ts s k).2))).trans (Chg.set _ pb 5 (.string (headOf (tokAt ts s k 0).2.1)))))
  clear hb g1 FA OK
  go_wp2_with fail
  go_end0
  exact ⟨rfl, F.out, G.out⟩
theorem fail_err {rb pb : Nat} {v : Value} {ts : List Tok} {s : ByteArray} {o : Nat} {x : Pf} (c : Int) {w : World} (h : PS w rb pb v ts s o (.error x)) :
    Calls Try.prog 33 #[.pointer (some ⟨pb, 0, none⟩), .int .i64 c] w fun e w' => e = .returned (.tuple #[]) ∧ w = w' := by
  have OK := hide (ok_err h)
  clear h
  go_enter Try.func33, Try.ntmps33
  go_wp2_with fail
  refine OK.out.mono ?_
  rintro e w' ⟨rfl, rfl⟩
  go_wp2_with fail
  go_end0
  exact ⟨rfl, rfl⟩
end Go.Proofs.Ytboeeaekhijboaa
