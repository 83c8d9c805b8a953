/- The document's parser in memory: fail, kind, word, at, a, is, sign. -/
import Derived.Test.YtboeeaekhijboaaPterm
import Derived.Test.YtboeeaekhijboaaWords
namespace Go.Proofs.Ytboeeaekhijboaa
open Go.RowKit
set_option linter.unusedVariables false
set_option linter.unusedSimpArgs false

/-- words begin with a letter -/
def Wf (ts : List Tok) : Prop := ∀ t ∈ ts, t.1 = 1 → t.2.1.data.toList.head?.any isLetter = true
/-- a sign does not -/
def Sg (x : ByteArray) : Prop := x.data.toList.head?.any isLetter = false
structure Renv (ts : List Tok) (s : ByteArray) : Prop where
 len : ts.length ≤ 20000
 size : s.size ≤ 20000
 wf : Wf ts
def rbad : St → Int × Int
 | .ok _ => (0, 0)
 | .error e => (e.1, (e.2 : Int))
/-- the document's parser in memory -/
structure RS (w : World) (tb : Nat) (v : Value) (ts : List Tok) (s : ByteArray) (st : St) : Prop where
 blk : w.heap[tb]? = some (.cells #[v, .string s, .int .i64 (st.pos : Int), .int .i64 (rbad st).1, .int .i64 (rbad st).2] 88)
 tks : Tks w tb v ts
 le : st.pos ≤ ts.length
 env : Renv ts s
 code : ∀ e, st = .error e → e.1 = 2 ∨ e.1 = 3

theorem RS.chg {w w' : World} {tb : Nat} {v : Value} {ts : List Tok} {s : ByteArray} {st : St} (h : RS w tb v ts s st) {S : Nat → Prop} (g : Chg S w w') (hn : ∀ x, x ≤ tb → ¬ S x) : RS w' tb v ts s st :=
 ⟨g.blkS (hn tb (Nat.le_refl _)) h.blk, h.tks.chg g (fun k hk => hn k (by omega)), h.le, h.env, h.code⟩
theorem RS.lt {w : World} {tb : Nat} {v : Value} {ts : List Tok} {s : ByteArray} {st : St} (h : RS w tb v ts s st) : tb < w.heap.size := olt h.blk
theorem RS.cells {w : World} {tb : Nat} {v : Value} {ts : List Tok} {s : ByteArray} {st : St} (h : RS w tb v ts s st) :
  w.cell? ⟨tb, 0, none⟩ = some v ∧ w.cell? ⟨tb, 1, none⟩ = some (.string s) ∧ w.cell? ⟨tb, 2, none⟩ = some (.int .i64 (st.pos : Int)) ∧ w.cell? ⟨tb, 3, none⟩ = some (.int .i64 (rbad st).1) ∧ w.cell? ⟨tb, 4, none⟩ = some (.int .i64 (rbad st).2) :=
 ⟨blk_cell h.blk 0, blk_cell h.blk 1, blk_cell h.blk 2, blk_cell h.blk 3, blk_cell h.blk 4⟩
theorem RS.moved {w : World} {tb : Nat} {v : Value} {ts : List Tok} {s : ByteArray} {k : Nat} (h : RS w tb v ts s (.ok k)) (z : Int) (hz : z = ((k + 1 : Nat) : Int)) (hk : k + 1 ≤ ts.length) : RS (w.setCell ⟨tb, 2, none⟩ (.int .i64 z)) tb v ts s (.ok (k + 1)) := by
 have g := Chg.set w tb 2 (.int .i64 z)
 subst hz
 exact ⟨blk_set h.blk 2 (.int .i64 ((k + 1 : Nat) : Int)), h.tks.chg g (fun k hk => by omega), hk, h.env, fun e he => by cases he⟩
theorem RS.faulted {w w' : World} {tb : Nat} {v : Value} {ts : List Tok} {s : ByteArray} {k : Nat} (h : RS w tb v ts s (.ok k)) (c : Int) (hc : c = 2 ∨ c = 3) (g : Chg (fun x => x = tb) w w')
  (hb : w'.heap[tb]? = some (.cells #[v, .string s, .int .i64 (k : Int), .int .i64 c, .int .i64 (k : Int)] 88)) : RS w' tb v ts s (.error (c, k)) :=
 ⟨hb, h.tks.chg g (fun k hk => by omega), h.le, h.env, fun e he => by cases he; exact hc⟩

set_option maxRecDepth 100000 in
theorem rfail_ok {tb : Nat} {v : Value} {ts : List Tok} {s : ByteArray} {k : Nat} (c : Int) (hc : c = 2 ∨ c = 3) {w : World} (h : RS w tb v ts s (.ok k)) :
  Calls Try.prog 36 #[.pointer (some ⟨tb, 0, none⟩), .int .i64 c] w fun e w' => e = .returned (.tuple #[]) ∧ RS w' tb v ts s (.error (c, k)) ∧ Chg (fun x => x = tb) w w' := by
 have hb := h.blk
 have F := hide (h.faulted c hc ((Chg.set w tb 3 (.int .i64 c)).trans (Chg.set _ tb 4 (.int .i64 (k : Int)))) (blk_set (blk_set hb 3 (.int .i64 c)) 4 (.int .i64 (k : Int))))
 have G := hide ((Chg.set w tb 3 (.int .i64 c)).trans (Chg.set _ tb 4 (.int .i64 (k : Int))))
 have x3 := blk_free hb 3
 have x4 := blk_free hb 4
 obtain ⟨c0, c1, c2, c3, c4⟩ := h.cells
 clear h hb
 go_enter Try.func36, Try.ntmps36
 go_wp2_with fail
 go_end0
 exact ⟨rfl, F.out, G.out⟩
theorem rerr_ne {x : Pf} (h : x.1 = 2 ∨ x.1 = 3) : (x.1 == 0) = false ∧ (x.1 != 0) = true := by
 rcases h with h | h <;> rw [h] <;> exact ⟨rfl, rfl⟩
set_option maxRecDepth 100000 in
theorem rfail_err {tb : Nat} {v : Value} {ts : List Tok} {s : ByteArray} {x : Pf} (c : Int) {w : World} (h : RS w tb v ts s (.error x)) :
  Calls Try.prog 36 #[.pointer (some ⟨tb, 0, none⟩), .int .i64 c] w fun e w' => e = .returned (.tuple #[]) ∧ w = w' := by
 have c3 : w.cell? ⟨tb, 3, none⟩ = some (.int .i64 x.1) := h.cells.2.2.2.1
 obtain ⟨e1, e2⟩ := rerr_ne (h.code x rfl)
 clear h
 go_enter Try.func36, Try.ntmps36
 go_wp2_with fail
 go_end0
 exact ⟨rfl, rfl⟩

set_option maxRecDepth 100000 in
set_option maxHeartbeats 4000000 in
theorem kind_any {tb : Nat} {v : Value} {ts : List Tok} {s : ByteArray} {st : St} {w : World} (h : RS w tb v ts s st) :
  Calls Try.prog 68 #[.pointer (some ⟨tb, 0, none⟩)] w fun e w' => e = .returned (.int .i64 (tokAt ts s st.pos 0).1) ∧ Chg (fun _ => False) w w' := by
 obtain ⟨c0, c1, c2, c3, c4⟩ := h.cells
 obtain ⟨a, cap, rfl, hr⟩ := h.tks
 have hle := h.le
 have hn1 := h.env.len
 have hn2 := h.env.size
 clear h c3 c4
 generalize st.pos = k at *
 by_cases hlt : k < ts.length
 ·
  have hj : k + (0 : Int).toNat < ts.length := hlt
  have ht : tokAt ts s k 0 = ts[k]'hlt := tokAt_in (by omega) (by omega) hj
  rw [ht]
  clear ht hj
  have q2 : decide ((k : Int) < (ts.length : Int)) = true := by simp; omega
  have e3 : (0 : Int) ≤ (k : Int) := by omega
  have e4 : (k : Int) < (ts.length : Int) := by omega
  rcases hr with rfl | ⟨g, rfl, hg, hr⟩
  ·
   simp at hlt
  ·
   obtain ⟨b0, b1, b2⟩ := hr _ hlt
   generalize ts[k] = t at *
   obtain ⟨t0, t1, t2⟩ := t
   clear hr
   have lg : g < w.heap.size := World.block_lt_of_cell? w _ b0
   dsimp only at b0 b1 b2
   go_enter Try.func68, Try.ntmps68
   go_wp2_with fail
   go_region
   go_wp2_with fail
   go_region
   go_wp2_with fail
   go_ret
   exact ⟨rfl, ((Chg.refl _ _)).drew.drew⟩
 ·
  have ht : tokAt ts s k 0 = (4, ⟨#[]⟩, s.size) := tokAt_end (Or.inr (by omega))
  rw [ht]
  clear ht hr
  have q2 : decide ((k : Int) < (ts.length : Int)) = false := by simp; omega
  go_enter Try.func68, Try.ntmps68
  go_wp2_with fail
  go_region
  go_wp2_with fail
  go_ret
  exact ⟨rfl, (Chg.refl _ _).drew⟩

set_option maxRecDepth 100000 in
set_option maxHeartbeats 4000000 in
theorem rword_any {tb : Nat} {v : Value} {ts : List Tok} {s : ByteArray} {st : St} {w : World} (h : RS w tb v ts s st) :
  Calls Try.prog 70 #[.pointer (some ⟨tb, 0, none⟩)] w fun e w' => e = .returned (.string (tokAt ts s st.pos 0).2.1) ∧ Chg (fun _ => False) w w' := by
 obtain ⟨c0, c1, c2, c3, c4⟩ := h.cells
 obtain ⟨a, cap, rfl, hr⟩ := h.tks
 have hle := h.le
 have hn1 := h.env.len
 have hn2 := h.env.size
 clear h c3 c4
 generalize st.pos = k at *
 by_cases hlt : k < ts.length
 ·
  have hj : k + (0 : Int).toNat < ts.length := hlt
  have ht : tokAt ts s k 0 = ts[k]'hlt := tokAt_in (by omega) (by omega) hj
  rw [ht]
  clear ht hj
  have q2 : decide ((k : Int) < (ts.length : Int)) = true := by simp; omega
  have e3 : (0 : Int) ≤ (k : Int) := by omega
  have e4 : (k : Int) < (ts.length : Int) := by omega
  rcases hr with rfl | ⟨g, rfl, hg, hr⟩
  ·
   simp at hlt
  ·
   obtain ⟨b0, b1, b2⟩ := hr _ hlt
   generalize ts[k] = t at *
   obtain ⟨t0, t1, t2⟩ := t
   clear hr
   have lg : g < w.heap.size := World.block_lt_of_cell? w _ b0
   dsimp only at b0 b1 b2
   go_enter Try.func70, Try.ntmps70
   go_wp2_with fail
   go_region
   go_wp2_with fail
   go_region
   go_wp2_with fail
   go_ret
   exact ⟨rfl, ((Chg.refl _ _)).drew.drew⟩
 ·
  have ht : tokAt ts s k 0 = (4, ⟨#[]⟩, s.size) := tokAt_end (Or.inr (by omega))
  rw [ht]
  clear ht hr
  have q2 : decide ((k : Int) < (ts.length : Int)) = false := by simp; omega
  go_enter Try.func70, Try.ntmps70
  go_wp2_with fail
  go_region
  go_wp2_with fail
  go_ret
  exact ⟨rfl, (Chg.refl _ _).drew⟩

set_option maxRecDepth 100000 in
set_option maxHeartbeats 4000000 in
theorem rat_any {tb : Nat} {v : Value} {ts : List Tok} {s : ByteArray} {st : St} {w : World} (h : RS w tb v ts s st) :
  Calls Try.prog 67 #[.pointer (some ⟨tb, 0, none⟩)] w fun e w' => e = .returned (.int .i64 ((tokAt ts s st.pos 0).2.2 : Int)) ∧ Chg (fun _ => False) w w' := by
 obtain ⟨c0, c1, c2, c3, c4⟩ := h.cells
 obtain ⟨a, cap, rfl, hr⟩ := h.tks
 have hle := h.le
 have hn1 := h.env.len
 have hn2 := h.env.size
 clear h c3 c4
 generalize st.pos = k at *
 by_cases hlt : k < ts.length
 ·
  have hj : k + (0 : Int).toNat < ts.length := hlt
  have ht : tokAt ts s k 0 = ts[k]'hlt := tokAt_in (by omega) (by omega) hj
  rw [ht]
  clear ht hj
  have q2 : decide ((k : Int) < (ts.length : Int)) = true := by simp; omega
  have e3 : (0 : Int) ≤ (k : Int) := by omega
  have e4 : (k : Int) < (ts.length : Int) := by omega
  rcases hr with rfl | ⟨g, rfl, hg, hr⟩
  ·
   simp at hlt
  ·
   obtain ⟨b0, b1, b2⟩ := hr _ hlt
   generalize ts[k] = t at *
   obtain ⟨t0, t1, t2⟩ := t
   clear hr
   have lg : g < w.heap.size := World.block_lt_of_cell? w _ b0
   dsimp only at b0 b1 b2
   go_enter Try.func67, Try.ntmps67
   go_wp2_with fail
   go_region
   go_wp2_with fail
   go_region
   go_wp2_with fail
   go_ret
   exact ⟨rfl, ((Chg.refl _ _)).drew.drew⟩
 ·
  have ht : tokAt ts s k 0 = (4, ⟨#[]⟩, s.size) := tokAt_end (Or.inr (by omega))
  rw [ht]
  clear ht hr
  have q2 : decide ((k : Int) < (ts.length : Int)) = false := by simp; omega
  go_enter Try.func67, Try.ntmps67
  go_wp2_with fail
  go_region
  go_wp2_with fail
  go_ret
  exact ⟨rfl, (Chg.refl _ _).drew⟩

theorem tl_inj {a b : ByteArray} (h : a.toList = b.toList) : a = b := by
 exact bytes_eq h
theorem eat_is {ts : List Tok} {s : ByteArray} (h : Wf ts) {x : ByteArray} (hx : Sg x) (k : Nat) (hk : k ≤ ts.length) : eatB ts s x k = (((tokAt ts s k 0).1 == 3) && ((tokAt ts s k 0).2.1.toList == x.toList)) := by
 unfold eatB okTok
 by_cases hlt : k < ts.length
 ·
  have ht : tokAt ts s k 0 = ts[k] := tokAt_in (by omega) (by omega) hlt
  rw [ht]
  have hm : ts[k] ∈ ts := List.getElem_mem hlt
  generalize ts[k] = t at *
  by_cases e1 : t.1 = 1
  ·
   have h1 := h t hm e1
   have hne : (t.2.1.toList == x.toList) = false := by
    rw [Bool.eq_false_iff]
    intro he
    have he' := eq_of_beq he
    have e2 : t.2.1 = x := by
     exact tl_inj he'
    rw [e2] at h1
    exact absurd h1 (by rw [hx]; decide)
   rw [hne, e1]
   rfl
  ·
   by_cases e3 : t.1 = 3
   ·
    rw [e3]; cases (t.2.1.toList == x.toList) <;> rfl
   ·
    have a1 : (t.1 != 1) = true := by simpa using e1
    have a3 : (t.1 != 3) = true := by simpa using e3
    have b3 : (t.1 == 3) = false := by simpa using e3
    rw [a1, a3, b3]
    rfl
 ·
  rw [tokAt_end (Or.inr (by omega))]
  rfl

set_option maxRecDepth 100000 in
set_option maxHeartbeats 4000000 in
theorem is_any {tb : Nat} {v : Value} {ts : List Tok} {s : ByteArray} {st : St} (x : ByteArray) (hx : Sg x) {w : World} (h : RS w tb v ts s st) :
  Calls Try.prog 74 #[.pointer (some ⟨tb, 0, none⟩), .string x] w fun e w' => e = .returned (.bool (nextB ts s st x)) ∧ Chg (fun _ => False) w w' := by
 have HP := hide h
 cases st with
 | error p =>
   have c3 : w.cell? ⟨tb, 3, none⟩ = some (.int .i64 p.1) := h.cells.2.2.2.1
   obtain ⟨e1, e2⟩ := rerr_ne (h.code p rfl)
   clear h
   go_enter Try.func74, Try.ntmps74
   go_wp2_with fail
   go_ret
   exact ⟨rfl, Chg.refl _ _⟩
 | ok k =>
   have c3 : w.cell? ⟨tb, 3, none⟩ = some (.int .i64 0) := h.cells.2.2.2.1
   have HE := hide (eat_is (s := s) h.env.wf hx k h.le)
   have KD := hide (fun w h => kind_any (tb := tb) (v := v) (ts := ts) (s := s) (st := .ok k) (w := w) h)
   have WD := hide (fun w h => rword_any (tb := tb) (v := v) (ts := ts) (s := s) (st := .ok k) (w := w) h)
   have KD : Hid (∀ w, RS w tb v ts s (.ok k) → Calls Try.prog 68 #[.pointer (some ⟨tb, 0, none⟩)] w fun e w' => e = .returned (.int .i64 (tokAt ts s k 0).1) ∧ Chg (fun _ => False) w w') := KD
   have WD : Hid (∀ w, RS w tb v ts s (.ok k) → Calls Try.prog 70 #[.pointer (some ⟨tb, 0, none⟩)] w fun e w' => e = .returned (.string (tokAt ts s k 0).2.1) ∧ Chg (fun _ => False) w w') := WD
   show Calls Try.prog 74 #[.pointer (some ⟨tb, 0, none⟩), .string x] w fun e w' => e = .returned (.bool (eatB ts s x k)) ∧ Chg (fun _ => False) w w'
   rw [HE.out]
   clear h HE
   generalize tokAt ts s k 0 = t at *
   obtain ⟨t0, t1, t2⟩ := t
   dsimp only at KD WD ⊢
   cases e3 : (t0 == 3)
   ·
    go_enter Try.func74, Try.ntmps74
    go_wp2_with fail
    refine (KD.out w HP.out).mono ?_
    rintro e w2 ⟨rfl, g2⟩
    have G2 := hide g2
    clear g2
    go_wp2_with fail
    go_ret
    exact ⟨rfl, G2.out⟩
   ·
    cases ex : (t1.toList == x.toList)
    all_goals
     go_enter Try.func74, Try.ntmps74
     go_wp2_with fail
     refine (KD.out w HP.out).mono ?_
     rintro e w2 ⟨rfl, g2⟩
     have H2 := hide (HP.out.chg g2 (fun _ _ h => h))
     have G2 := hide g2
     clear g2
     go_wp2_with fail
     refine (WD.out w2 H2.out).mono ?_
     rintro e w3 ⟨rfl, g3⟩
     have G3 := hide (G2.out.trans g3)
     clear g3
     go_wp2_with fail
     go_ret
     exact ⟨rfl, G3.out⟩

set_option maxRecDepth 100000 in
set_option maxHeartbeats 4000000 in
theorem sign_any' {tb : Nat} {v : Value} {ts : List Tok} {s : ByteArray} {st : St} (x : ByteArray) (hx : Sg x) {w : World} (h : RS w tb v ts s st) :
  Calls Try.prog 73 #[.pointer (some ⟨tb, 0, none⟩), .string x] w fun e w' => e = .returned (.tuple #[]) ∧ RS w' tb v ts s (st.then (mustS ts s x)) ∧ Chg (fun x => x = tb) w w' := by
 have HP := hide h
 have IS := hide (is_any x hx h)
 clear h
 cases st with
 | error p =>
   have nb : nextB ts s (.error p) x = false := rfl
   rw [nb] at IS
   clear nb
   go_enter Try.func73, Try.ntmps73
   go_wp2_with fail
   refine IS.out.mono ?_
   rintro e w2 ⟨rfl, g2⟩
   have H2 := hide (HP.out.chg g2 (fun _ _ h => h))
   have G2 := hide g2
   clear g2
   go_wp2_with fail
   refine (rfail_err 3 H2.out).mono ?_
   rintro e w3 ⟨rfl, rfl⟩
   go_wp2_with fail
   refine bodyPost_ret (v := .tuple #[]) (by simp [results, Try.results73, go_sem]) rfl ?_
   exact ⟨rfl, H2.out, G2.out.none⟩
 | ok k =>
   have nb : nextB ts s (.ok k) x = eatB ts s x k := rfl
   rw [nb] at IS
   show Calls Try.prog 73 #[.pointer (some ⟨tb, 0, none⟩), .string x] w fun e w' => e = .returned (.tuple #[]) ∧ RS w' tb v ts s (mustS ts s x k) ∧ Chg (fun x => x = tb) w w'
   clear nb
   cases hb : eatB ts s x k
   ·
    have HM : Hid (mustS ts s x k = .error (3, k)) := hide (by unfold mustS; rw [if_neg (by rw [hb]; decide)])
    rw [hb] at IS
    rw [HM.out]
    clear hb
    go_enter Try.func73, Try.ntmps73
    go_wp2_with fail
    refine IS.out.mono ?_
    rintro e w2 ⟨rfl, g2⟩
    have H2 := hide (HP.out.chg g2 (fun _ _ h => h))
    have G2 := hide g2
    clear g2
    go_wp2_with fail
    refine (rfail_ok 3 (Or.inr rfl) H2.out).mono ?_
    rintro e w3 ⟨rfl, h3, g3⟩
    have H3 := hide h3
    have G3 := hide (G2.out.none.trans g3)
    clear h3 g3
    go_wp2_with fail
    refine bodyPost_ret (v := .tuple #[]) (by simp [results, Try.results73, go_sem]) rfl ?_
    exact ⟨rfl, H3.out, G3.out⟩
   ·
    have HM : Hid (mustS ts s x k = .ok (k + 1)) := hide (by unfold mustS; rw [if_pos hb])
    have HL := hide (eatB_lt hb)
    rw [hb] at IS
    rw [HM.out]
    clear hb
    go_enter Try.func73, Try.ntmps73
    go_wp2_with fail
    refine IS.out.mono ?_
    rintro e w2 ⟨rfl, g2⟩
    have H2 := hide (HP.out.chg g2 (fun _ _ h => h))
    have hk1 := H2.out.env.len
    have hk2 := HL.out
    have H3 := hide (H2.out.moved ((k : Int) + 1) (by omega) HL.out)
    have G3 := hide (g2.none.trans (Chg.set w2 tb 2 (.int .i64 ((k : Int) + 1))))
    have f2 := blk_free H2.out.blk 2
    have c2 : w2.cell? ⟨tb, 2, none⟩ = some (.int .i64 (k : Int)) := H2.out.cells.2.2.1
    clear g2
    go_wp2_with fail
    go_end0
    exact ⟨rfl, H3.out, G3.out⟩

set_option maxRecDepth 100000 in
set_option maxHeartbeats 4000000 in
theorem a_any {tb : Nat} {v : Value} {ts : List Tok} {s : ByteArray} {st : St} (kind : Int) (hk : kind ≠ 4) {w : World} (h : RS w tb v ts s st) :
  Calls Try.prog 71 #[.pointer (some ⟨tb, 0, none⟩), .int .i64 kind] w fun e w' => e = .returned (.string (tokOf (st.bind (tokS ts s kind))).2.1) ∧ RS w' tb v ts s (st.bind (tokS ts s kind)).st ∧ Chg (fun x => x = tb) w w' := by
 have HP := hide h
 cases st with
 | error p =>
   have c3 : w.cell? ⟨tb, 3, none⟩ = some (.int .i64 p.1) := h.cells.2.2.2.1
   obtain ⟨e1, e2⟩ := rerr_ne (h.code p rfl)
   clear h
   show Calls Try.prog 71 #[.pointer (some ⟨tb, 0, none⟩), .int .i64 kind] w fun e w' => e = .returned (.string ⟨#[]⟩) ∧ RS w' tb v ts s (.error p) ∧ Chg (fun x => x = tb) w w'
   go_enter Try.func71, Try.ntmps71
   go_wp2_with fail
   refine (rfail_err 3 HP.out).mono ?_
   rintro e w3 ⟨rfl, rfl⟩
   go_wp2_with fail
   go_ret
   exact ⟨rfl, HP.out, Chg.refl _ _⟩
 | ok k =>
   have c3 : w.cell? ⟨tb, 3, none⟩ = some (.int .i64 0) := h.cells.2.2.2.1
   have KD := hide (fun w h => kind_any (tb := tb) (v := v) (ts := ts) (s := s) (st := .ok k) (w := w) h)
   have KD : Hid (∀ w, RS w tb v ts s (.ok k) → Calls Try.prog 68 #[.pointer (some ⟨tb, 0, none⟩)] w fun e w' => e = .returned (.int .i64 (tokAt ts s k 0).1) ∧ Chg (fun _ => False) w w') := KD
   show Calls Try.prog 71 #[.pointer (some ⟨tb, 0, none⟩), .int .i64 kind] w fun e w' => e = .returned (.string (tokOf (tokS ts s kind k)).2.1) ∧ RS w' tb v ts s (tokS ts s kind k).st ∧ Chg (fun x => x = tb) w w'
   obtain ⟨t, ht⟩ : ∃ t, tokAt ts s k 0 = t := ⟨_, rfl⟩
   by_cases hkd : t.1 = kind
   ·
    have HR : Hid (tokS ts s kind k = .ok (t, k + 1)) := hide (by unfold tokS; rw [ht, if_pos hkd])
    have hlt : k < ts.length := tokAt_len (s := s) (by rw [ht, hkd]; exact hk)
    rw [HR.out]
    show Calls Try.prog 71 #[.pointer (some ⟨tb, 0, none⟩), .int .i64 kind] w fun e w' => e = .returned (.string t.2.1) ∧ RS w' tb v ts s (.ok (k + 1)) ∧ Chg (fun x => x = tb) w w'
    have ht2 : tokAt ts s k 0 = ts[k] := tokAt_in (by omega) (by omega) hlt
    rw [ht2] at ht
    rw [ht2, ht] at KD
    obtain ⟨a, cap, hv, hr⟩ := h.tks
    subst hv
    rcases hr with h0 | ⟨g, rfl, hg, hr⟩
    ·
     subst h0; exact absurd hlt (Nat.not_lt_zero _)
    obtain ⟨b0, b1, b2⟩ := hr _ hlt
    rw [ht] at b1
    obtain ⟨t0, t1, t2⟩ := t
    dsimp only at hkd b1 KD ⊢
    subst hkd
    clear hr b0 b2 HR
    have HG : Hid (g < tb) := hg
    have HLT := hide hlt
    have hn := h.env.len
    clear h hg ht ht2
    go_enter Try.func71, Try.ntmps71
    go_wp2_with fail
    refine (KD.out w HP.out).mono ?_
    rintro e w2 ⟨rfl, g2⟩
    have H2 := hide (HP.out.chg g2 (fun _ _ h => h))
    have H3 := hide (H2.out.moved ((k : Int) + 1) (by omega) HLT.out)
    have GS := Chg.set w2 tb 2 (.int .i64 ((k : Int) + 1))
    have G3 := hide (g2.none.trans GS)
    have f2 := blk_free H2.out.blk 2
    have c2 : w2.cell? ⟨tb, 2, none⟩ = some (.int .i64 (k : Int)) := H2.out.cells.2.2.1
    have d1 := GS.cell (by have := HG.out; omega) (g2.cell (fun h => h) b1)
    have d0 := H3.out.cells.1
    have d2 : (w2.setCell ⟨tb, 2, none⟩ (.int .i64 ((k : Int) + 1))).cell? ⟨tb, 2, none⟩ = some (.int .i64 ((k : Int) + 1)) := by have := H3.out.cells.2.2.1; simpa [St.pos] using this
    have e3 : (0 : Int) ≤ (k : Int) := by omega
    have e4 : (k : Int) < (ts.length : Int) := by omega
    have lg := World.block_lt_of_cell? _ _ d1
    clear g2 GS b1
    go_wp2_with fail
    generalize w2.setCell ⟨tb, 2, none⟩ (.int .i64 ((k : Int) + 1)) = w3 at *
    go_region
    go_wp2_with fail
    go_ret
    exact ⟨rfl, H3.out.chg (Chg.refl (fun _ => False) w3).drew (fun _ _ h => h), G3.out.drew⟩
   ·
    have HR : Hid (tokS ts s kind k = .error (3, k)) := hide (by unfold tokS; rw [ht, if_neg hkd])
    rw [HR.out]
    show Calls Try.prog 71 #[.pointer (some ⟨tb, 0, none⟩), .int .i64 kind] w fun e w' => e = .returned (.string ⟨#[]⟩) ∧ RS w' tb v ts s (.error (3, k)) ∧ Chg (fun x => x = tb) w w'
    rw [ht] at KD
    obtain ⟨t0, t1, t2⟩ := t
    dsimp only at hkd KD
    have hke : (t0 == kind) = false := by simpa using hkd
    have hke2 : (t0 != kind) = true := by simpa using hkd
    clear h ht HR
    go_enter Try.func71, Try.ntmps71
    go_wp2_with fail
    refine (KD.out w HP.out).mono ?_
    rintro e w2 ⟨rfl, g2⟩
    have H2 := hide (HP.out.chg g2 (fun _ _ h => h))
    have G2 := hide g2
    clear g2
    go_wp2_with fail
    refine (rfail_ok 3 (Or.inr rfl) H2.out).mono ?_
    rintro e w3 ⟨rfl, h3, g3⟩
    have H3 := hide h3
    have G3 := hide (G2.out.none.trans g3)
    clear h3 g3
    go_wp2_with fail
    go_ret
    exact ⟨rfl, H3.out, G3.out⟩
end Go.Proofs.Ytboeeaekhijboaa
