/- The program's parser: next, must, token, word. The program's parser: atom, opened, typ. -/
import Derived.Test.YtboeeaekhijboaaPspec
import Derived.Test.YtboeeaekhijboaaShort
namespace Go.Proofs.Ytboeeaekhijboaa
open Go.RowKit
set_option linter.unusedVariables false
set_option linter.unusedSimpArgs false

theorem takes_one (ts : List Tok) (s : ByteArray) (k : Nat) (t : ByteArray) : takes (fun i => tokAt ts s k i) 0 [t] = eatB ts s t k := by
 simp [takes, eatB]
def nextB (ts : List Tok) (s : ByteArray) (st : St) (t : ByteArray) : Bool := match st with
 | .ok k => eatB ts s t k
 | .error _ => false
def nextSt (ts : List Tok) (s : ByteArray) (st : St) (t : ByteArray) : St := match st with
 | .ok k => .ok (if eatB ts s t k = true then k + 1 else k)
 | .error e => .error e
theorem txs_one (w : World) (t : ByteArray) : Txs (w.alloc (.cells #[.string t] 9)) (w.heap.size + 1) (some ⟨w.heap.size, 0, none⟩) [t] :=
 Or.inr ⟨w.heap.size, 0, rfl, Nat.lt_succ_self _, fun i hi => by
  match i, hi with
  | 0, _ => exact blk_cell (blk_new w (.cells #[.string t] 9)) 0⟩

set_option maxRecDepth 100000 in
theorem next_any {rb pb : Nat} {v : Value} {ts : List Tok} {s : ByteArray} {o : Nat} {st : St} (t : ByteArray) {w : World} (h : PS w rb pb v ts s o st) :
  Calls Try.prog 77 #[.pointer (some ⟨pb, 0, none⟩), .string t] w fun e w' => e = .returned (.bool (nextB ts s st t)) ∧ PS w' rb pb v ts s o (nextSt ts s st t) ∧ Chg (fun x => x = rb) w w' := by
 cases st with
 | error x =>
   have HP := hide h
   have OK := hide (ok_err h)
   clear h
   go_enter Try.func77, Try.ntmps77
   go_wp2_with fail
   refine OK.out.mono ?_
   rintro e w' ⟨rfl, rfl⟩
   go_wp2_with fail
   go_ret
   exact ⟨rfl, HP.out, Chg.refl _ _⟩
 | ok k =>
   have HP := hide h
   have OK := hide (ok_ok h)
   obtain ⟨c0, c1, _, _, _, _⟩ := h.cells
   have GA := al w (.cells #[.string t] 9)
   have hl := h.lt
   have TK := hide (take_some rb rb (w.heap.size + 1) v ts s k h.le (by have := h.env.len; omega) (by have := h.env.size; omega) (some ⟨w.heap.size, 0, none⟩) 1 1 [t] rfl (by decide) (w.alloc (.cells #[.string t] 9)) (h.rd.chg GA (fun h => h)) (h.tks.chg GA (fun _ _ h => h)) (txs_one w t))
   rw [takes_one] at TK
   have H1 := hide (h.chg GA (fun _ _ h => h))
   have G1 := hide GA
   clear h GA hl
   have FIN : Hid (∀ w', Chg (fun x => x = rb) (w.alloc (.cells #[.string t] 9)) w' → Rd w' rb 106 v s (if eatB ts s t k = true then k + 1 else k) → PS w' rb pb v ts s o (.ok (if eatB ts s t k = true then k + 1 else k))) := hide (fun w' g hr => H1.out.moved g hr (by
    by_cases hb : eatB ts s t k = true
    ·
     rw [if_pos hb]; exact eatB_lt hb
    ·
     rw [if_neg hb]; exact H1.out.le))
   show Calls Try.prog 77 #[.pointer (some ⟨pb, 0, none⟩), .string t] w fun e w' => e = .returned (.bool (eatB ts s t k)) ∧ PS w' rb pb v ts s o (.ok (if eatB ts s t k = true then k + 1 else k)) ∧ Chg (fun x => x = rb) w w'
   generalize eatB ts s t k = b at *
   generalize (if b = true then k + 1 else k) = k' at *
   go_enter Try.func77, Try.ntmps77
   go_wp2_with fail
   refine OK.out.mono ?_
   rintro e w' ⟨rfl, rfl⟩
   go_wp2_with fail
   refine TK.out.mono ?_
   rintro e w2 ⟨rfl, hr, g2⟩
   have F := hide (FIN.out w2 g2 hr)
   have G := hide (G1.out.none.trans g2)
   clear hr g2
   go_wp2_with fail
   go_ret
   exact ⟨rfl, F.out, G.out⟩

set_option maxRecDepth 100000 in
theorem must_any {rb pb : Nat} {v : Value} {ts : List Tok} {s : ByteArray} {o : Nat} {st : St} (t : ByteArray) {w : World} (h : PS w rb pb v ts s o st) :
  Calls Try.prog 60 #[.pointer (some ⟨pb, 0, none⟩), .string t] w fun e w' => e = .returned (.tuple #[]) ∧ PS w' rb pb v ts s o (st.then (mustS ts s t)) ∧ Chg (Pw rb pb) w w' := by
 cases st with
 | error x =>
   have HP := hide h
   have OK := hide (ok_err h)
   clear h
   go_enter Try.func60, Try.ntmps60
   go_wp2_with fail
   refine OK.out.mono ?_
   rintro e w' ⟨rfl, rfl⟩
   go_wp2_with fail
   go_end0
   exact ⟨rfl, HP.out, Chg.refl _ _⟩
 | ok k =>
   have HP := hide h
   have OK := hide (ok_ok h)
   obtain ⟨c0, c1, _, _, _, _⟩ := h.cells
   have GA := al w (.cells #[.string t] 9)
   have hl := h.lt
   have TK := hide (take_some rb rb (w.heap.size + 1) v ts s k h.le (by have := h.env.len; omega) (by have := h.env.size; omega) (some ⟨w.heap.size, 0, none⟩) 1 1 [t] rfl (by decide) (w.alloc (.cells #[.string t] 9)) (h.rd.chg GA (fun h => h)) (h.tks.chg GA (fun _ _ h => h)) (txs_one w t))
   rw [takes_one] at TK
   have H1 := hide (h.chg GA (fun _ _ h => h))
   have G1 := hide GA
   clear h GA hl
   show Calls Try.prog 60 #[.pointer (some ⟨pb, 0, none⟩), .string t] w fun e w' => e = .returned (.tuple #[]) ∧ PS w' rb pb v ts s o (mustS ts s t k) ∧ Chg (Pw rb pb) w w'
   cases hb : eatB ts s t k
   ·
    have HM : Hid (mustS ts s t k = .error (3, k)) := hide (by unfold mustS; rw [if_neg (by rw [hb]; decide)])
    rw [hb] at TK
    rw [HM.out]
    clear hb
    go_enter Try.func60, Try.ntmps60
    go_wp2_with fail
    refine OK.out.mono ?_
    rintro e w' ⟨rfl, rfl⟩
    go_wp2_with fail
    refine TK.out.mono ?_
    rintro e w2 ⟨rfl, hr, g2⟩
    rw [if_neg (by decide)] at hr
    have F := hide (H1.out.moved g2 hr H1.out.le)
    have G := hide (G1.out.none.trans g2)
    clear hr g2
    go_wp2_with fail
    refine (fail_ok 3 (Or.inr rfl) F.out).mono ?_
    rintro e w3 ⟨rfl, h3, g3⟩
    have F3 := hide h3
    have G3 := hide ((G.out.mono (T := Pw rb pb) (fun x _ h => Or.inr h)).trans (g3.mono (fun x _ h => Or.inl h)))
    clear h3 g3
    go_wp2_with fail
    go_end0
    exact ⟨rfl, F3.out, G3.out⟩
   ·
    have HM : Hid (mustS ts s t k = .ok (k + 1)) := hide (by unfold mustS; rw [if_pos hb])
    have HL := hide (eatB_lt hb)
    rw [hb] at TK
    rw [HM.out]
    clear hb
    go_enter Try.func60, Try.ntmps60
    go_wp2_with fail
    refine OK.out.mono ?_
    rintro e w' ⟨rfl, rfl⟩
    go_wp2_with fail
    refine TK.out.mono ?_
    rintro e w2 ⟨rfl, hr, g2⟩
    first | rw [if_pos trivial] at hr | rw [if_pos rfl] at hr
    have F := hide (H1.out.moved g2 hr HL.out)
    have G := hide (G1.out.none.trans g2)
    clear hr g2
    go_wp2_with fail
    go_end0
    exact ⟨rfl, F.out, G.out.mono (fun x _ h => Or.inr h)⟩

/-- the token that was read, or none -/
def tokOf : Rz Tok → Tok
 | .ok q => q.1
 | .error _ => (0, ⟨#[]⟩, 0)
theorem tok_on {ts : List Tok} {k : Nat} (h : k < ts.length) : on ts k = k + 1 := by unfold on; rw [if_pos h]
set_option maxRecDepth 100000 in
theorem field75_0 (a b c : Value) (w : World) : Sem.run Try.prog (Instr.field 75 (.agg #[a, b, c]) 0) w = .ok a w := rfl

set_option maxRecDepth 100000 in
theorem token_any {rb pb : Nat} {v : Value} {ts : List Tok} {s : ByteArray} {o : Nat} {st : St} (kind : Int) (hk : kind ≠ 4) {w : World} (h : PS w rb pb v ts s o st) :
  Calls Try.prog 93 #[.pointer (some ⟨pb, 0, none⟩), .int .i64 kind] w fun e w' => e = .returned (tokV (tokOf (st.bind (tokS ts s kind)))) ∧ PS w' rb pb v ts s o (st.bind (tokS ts s kind)).st ∧ Chg (Pw rb pb) w w' := by
 have G0 := hide (al w (.cells #[.int .i64 0, .string ⟨#[]⟩, .int .i64 0] 75))
 have B0 := hide (blk_new w (.cells #[.int .i64 0, .string ⟨#[]⟩, .int .i64 0] 75))
 have H0 := hide (h.chg G0.out (fun _ _ h => h))
 have hl := hide h.lt
 clear h
 obtain ⟨A, hA⟩ : ∃ A, w.heap.size = A := ⟨_, rfl⟩
 have HA := hide hA
 cases st with
 | error x =>
   show Calls Try.prog 93 #[.pointer (some ⟨pb, 0, none⟩), .int .i64 kind] w fun e w' => e = .returned (.agg #[.int .i64 0, .string ⟨#[]⟩, .int .i64 0]) ∧ PS w' rb pb v ts s o (.error x) ∧ Chg (Pw rb pb) w w'
   rw [hA] at B0
   clear hA
   go_enter Try.func93, Try.ntmps93
   go_wp2_with fail
   rw [HA.out]
   generalize w.alloc (.cells #[.int .i64 0, .string ⟨#[]⟩, .int .i64 0] 75) = w1 at *
   refine (ok_err H0.out).mono ?_
   rintro e w' ⟨rfl, rfl⟩
   go_wp2_with fail
   refine (ok_err H0.out).mono ?_
   rintro e w' ⟨rfl, rfl⟩
   have b0 := blk_cell B0.out 0
   have b1 := blk_cell B0.out 1
   have b2 := blk_cell B0.out 2
   have f0 := blk_free B0.out 0
   have f1 := blk_free B0.out 1
   have f2 := blk_free B0.out 2
   have B3 := hide (blk_set (blk_set (blk_set B0.out 0 (.int .i64 0)) 1 (.string ⟨#[]⟩)) 2 (.int .i64 0))
   have G3 := hide (((Chg.set w1 A 0 (.int .i64 0)).trans (Chg.set _ A 1 (.string ⟨#[]⟩))).trans (Chg.set _ A 2 (.int .i64 0)))
   have F3 := hide (H0.out.chg G3.out (fun x hx e => by have h1 := hl.out; have h2 := HA.out; omega))
   have C3 : Hid (Chg (Pw rb pb) w (((w1.setCell ⟨A, 0, none⟩ (.int .i64 0)).setCell ⟨A, 1, none⟩ (.string ⟨#[]⟩)).setCell ⟨A, 2, none⟩ (.int .i64 0))) := hide ((G0.out.none.trans G3.out).mono (fun x hx e => by have h2 := HA.out; omega))
   go_wp2_with fail
   generalize (((w1.setCell ⟨A, 0, none⟩ (.int .i64 0)).setCell ⟨A, 1, none⟩ (.string ⟨#[]⟩)).setCell ⟨A, 2, none⟩ (.int .i64 0)) = wF at *
   have r0 := blk_cell B3.out 0
   have r1 := blk_cell B3.out 1
   have r2 := blk_cell B3.out 2
   exact bodyPost_ret (v := .agg #[.int .i64 0, .string ⟨#[]⟩, .int .i64 0]) (by simp [results, Try.results93, go_sem, r0, r1, r2]) rfl ⟨rfl, F3.out, C3.out⟩
 | ok k =>
   obtain ⟨t, ht⟩ : ∃ t, tokAt ts s k 0 = t := ⟨_, rfl⟩
   by_cases hkd : t.1 = kind
   ·
    have HR : Hid (tokS ts s kind k = .ok (t, k + 1)) := hide (by unfold tokS; rw [ht, if_pos hkd])
    have HL : Hid (k < ts.length) := hide (tokAt_len (s := s) (by rw [ht, hkd]; exact hk))
    show Calls Try.prog 93 #[.pointer (some ⟨pb, 0, none⟩), .int .i64 kind] w fun e w' => e = .returned (tokV (tokOf (tokS ts s kind k))) ∧ PS w' rb pb v ts s o (tokS ts s kind k).st ∧ Chg (Pw rb pb) w w'
    rw [HR.out]
    show Calls Try.prog 93 #[.pointer (some ⟨pb, 0, none⟩), .int .i64 kind] w fun e w' => e = .returned (tokV t) ∧ PS w' rb pb v ts s o (.ok (k + 1)) ∧ Chg (Pw rb pb) w w'
    have PK := hide (fun w' (h : PS w' rb pb v ts s o (.ok k)) => peek_some rb rb v ts s k 0 h.le (by have := h.env.len; omega) (by have := h.env.size; omega) w' h.rd h.tks)
    have NX := hide (fun w' (h : PS w' rb pb v ts s o (.ok k)) => next_some rb rb v ts s k h.le (by have := h.env.len; omega) (by have := h.env.size; omega) w' h.rd h.tks)
    have HO := hide (tok_on HL.out)
    rw [ht] at PK NX
    rw [HO.out] at NX
    obtain ⟨t0, t1, t2⟩ := t
    dsimp only at hkd
    subst hkd
    have etv : tokV (t0, t1, t2) = .agg #[.int .i64 t0, .string t1, .int .i64 (t2 : Int)] := rfl
    rw [etv] at PK NX ⊢
    have fl0 := field75_0 (.int .i64 t0) (.string t1) (.int .i64 (t2 : Int))
    rw [hA] at B0
    clear hA ht etv
    go_enter Try.func93, Try.ntmps93
    go_wp2_with fail
    rw [HA.out]
    generalize w.alloc (.cells #[.int .i64 0, .string ⟨#[]⟩, .int .i64 0] 75) = w1 at *
    obtain ⟨c0, c1, _, _, _, _⟩ := H0.out.cells
    refine (ok_ok H0.out).mono ?_
    rintro e w' ⟨rfl, rfl⟩
    go_wp2_with fail
    refine (PK.out w1 H0.out).mono ?_
    rintro e w2 ⟨rfl, g2⟩
    have H2 := hide (H0.out.chg g2 (fun _ _ h => h))
    have B2 := hide (g2.blk B0.out)
    have G2 := hide (G0.out.trans g2)
    clear g2
    go_wp2_with fail
    refine (ok_ok H2.out).mono ?_
    rintro e w' ⟨rfl, rfl⟩
    obtain ⟨c0, c1, _, _, _, _⟩ := H2.out.cells
    go_wp2_with fail
    refine (NX.out w2 H2.out).mono ?_
    rintro e w3 ⟨rfl, hr, g3⟩
    have H3 := hide (H2.out.moved g3 hr HL.out)
    have B4 := hide (g3.blkS (by have h1 := hl.out; have h2 := HA.out; omega) B2.out)
    have G3 := hide (G2.out.none.trans g3)
    clear hr g3
    have b0 := blk_cell B4.out 0
    have b1 := blk_cell B4.out 1
    have b2 := blk_cell B4.out 2
    have f0 := blk_free B4.out 0
    have f1 := blk_free B4.out 1
    have f2 := blk_free B4.out 2
    have B5 := hide (blk_set (blk_set (blk_set B4.out 0 (.int .i64 t0)) 1 (.string t1)) 2 (.int .i64 (t2 : Int)))
    have G5 := hide (((Chg.set w3 A 0 (.int .i64 t0)).trans (Chg.set _ A 1 (.string t1))).trans (Chg.set _ A 2 (.int .i64 (t2 : Int))))
    have F5 := hide (H3.out.chg G5.out (fun x hx e => by have h1 := hl.out; have h2 := HA.out; omega))
    have C5 : Hid (Chg (Pw rb pb) w (((w3.setCell ⟨A, 0, none⟩ (.int .i64 t0)).setCell ⟨A, 1, none⟩ (.string t1)).setCell ⟨A, 2, none⟩ (.int .i64 (t2 : Int)))) := hide (((G3.out.mono (T := fun x => Pw rb pb x ∨ x = A) (fun x _ h => Or.inl (Or.inr h))).trans (G5.out.mono (fun x _ h => Or.inr h))).mono (fun x hx e => by
     rcases e with e | e
     ·
      exact e
     ·
      have h2 := HA.out; omega))
    go_wp2_with fail
    generalize (((w3.setCell ⟨A, 0, none⟩ (.int .i64 t0)).setCell ⟨A, 1, none⟩ (.string t1)).setCell ⟨A, 2, none⟩ (.int .i64 (t2 : Int))) = wF at *
    have r0 := blk_cell B5.out 0
    have r1 := blk_cell B5.out 1
    have r2 := blk_cell B5.out 2
    exact bodyPost_ret (v := .agg #[.int .i64 t0, .string t1, .int .i64 (t2 : Int)]) (by simp [results, Try.results93, go_sem, r0, r1, r2]) rfl ⟨rfl, F5.out, C5.out⟩
   ·
    have HR : Hid (tokS ts s kind k = .error (3, k)) := hide (by unfold tokS; rw [ht, if_neg hkd])
    show Calls Try.prog 93 #[.pointer (some ⟨pb, 0, none⟩), .int .i64 kind] w fun e w' => e = .returned (tokV (tokOf (tokS ts s kind k))) ∧ PS w' rb pb v ts s o (tokS ts s kind k).st ∧ Chg (Pw rb pb) w w'
    rw [HR.out]
    show Calls Try.prog 93 #[.pointer (some ⟨pb, 0, none⟩), .int .i64 kind] w fun e w' => e = .returned (.agg #[.int .i64 0, .string ⟨#[]⟩, .int .i64 0]) ∧ PS w' rb pb v ts s o (.error (3, k)) ∧ Chg (Pw rb pb) w w'
    have PK := hide (fun w' (h : PS w' rb pb v ts s o (.ok k)) => peek_some rb rb v ts s k 0 h.le (by have := h.env.len; omega) (by have := h.env.size; omega) w' h.rd h.tks)
    rw [ht] at PK
    obtain ⟨t0, t1, t2⟩ := t
    dsimp only at hkd
    have hke : (t0 == kind) = false := by simpa using hkd
    have hke2 : (t0 != kind) = true := by simpa using hkd
    have etv : tokV (t0, t1, t2) = .agg #[.int .i64 t0, .string t1, .int .i64 (t2 : Int)] := rfl
    rw [etv] at PK
    have fl0 := field75_0 (.int .i64 t0) (.string t1) (.int .i64 (t2 : Int))
    rw [hA] at B0
    clear hA ht etv
    go_enter Try.func93, Try.ntmps93
    go_wp2_with fail
    rw [HA.out]
    generalize w.alloc (.cells #[.int .i64 0, .string ⟨#[]⟩, .int .i64 0] 75) = w1 at *
    obtain ⟨c0, c1, _, _, _, _⟩ := H0.out.cells
    refine (ok_ok H0.out).mono ?_
    rintro e w' ⟨rfl, rfl⟩
    go_wp2_with fail
    refine (PK.out w1 H0.out).mono ?_
    rintro e w2 ⟨rfl, g2⟩
    have H2 := hide (H0.out.chg g2 (fun _ _ h => h))
    have B2 := hide (g2.blk B0.out)
    have G2 := hide (G0.out.trans g2)
    clear g2
    go_wp2_with fail
    refine (fail_ok 3 (Or.inr rfl) H2.out).mono ?_
    rintro e w3 ⟨rfl, h3, g3⟩
    have H3 := hide h3
    have B4 := hide (g3.blkS (by have h1 := hl.out; have h2 := HA.out; omega) B2.out)
    have G3 := hide (G2.out.none.trans g3)
    clear h3 g3
    go_wp2_with fail
    refine (ok_err H3.out).mono ?_
    rintro e w' ⟨rfl, rfl⟩
    have b0 := blk_cell B4.out 0
    have b1 := blk_cell B4.out 1
    have b2 := blk_cell B4.out 2
    have f0 := blk_free B4.out 0
    have f1 := blk_free B4.out 1
    have f2 := blk_free B4.out 2
    have B5 := hide (blk_set (blk_set (blk_set B4.out 0 (.int .i64 0)) 1 (.string ⟨#[]⟩)) 2 (.int .i64 0))
    have G5 := hide (((Chg.set w3 A 0 (.int .i64 0)).trans (Chg.set _ A 1 (.string ⟨#[]⟩))).trans (Chg.set _ A 2 (.int .i64 0)))
    have F5 := hide (H3.out.chg G5.out (fun x hx e => by have h1 := hl.out; have h2 := HA.out; omega))
    have C5 : Hid (Chg (Pw rb pb) w (((w3.setCell ⟨A, 0, none⟩ (.int .i64 0)).setCell ⟨A, 1, none⟩ (.string ⟨#[]⟩)).setCell ⟨A, 2, none⟩ (.int .i64 0))) := hide (((G3.out.mono (T := fun x => Pw rb pb x ∨ x = A) (fun x _ h => Or.inl (Or.inl h))).trans (G5.out.mono (fun x _ h => Or.inr h))).mono (fun x hx e => by
     rcases e with e | e
     ·
      exact e
     ·
      have h2 := HA.out; omega))
    go_wp2_with fail
    generalize (((w3.setCell ⟨A, 0, none⟩ (.int .i64 0)).setCell ⟨A, 1, none⟩ (.string ⟨#[]⟩)).setCell ⟨A, 2, none⟩ (.int .i64 0)) = wF at *
    have r0 := blk_cell B5.out 0
    have r1 := blk_cell B5.out 1
    have r2 := blk_cell B5.out 2
    exact bodyPost_ret (v := .agg #[.int .i64 0, .string ⟨#[]⟩, .int .i64 0]) (by simp [results, Try.results93, go_sem, r0, r1, r2]) rfl ⟨rfl, F5.out, C5.out⟩

set_option maxRecDepth 100000 in
theorem word_any {rb pb : Nat} {v : Value} {ts : List Tok} {s : ByteArray} {o : Nat} {st : St} {w : World} (h : PS w rb pb v ts s o st) :
  Calls Try.prog 57 #[.pointer (some ⟨pb, 0, none⟩)] w fun e w' => e = .returned (.string (tokOf (st.bind (tokS ts s 1))).2.1) ∧ PS w' rb pb v ts s o (st.bind (tokS ts s 1)).st ∧ Chg (Pw rb pb) w w' := by
 have TK := hide (token_any 1 (by decide) h)
 clear h
 generalize st.bind (tokS ts s 1) = r at *
 obtain ⟨t, ht⟩ : ∃ t, tokOf r = t := ⟨_, rfl⟩
 rw [ht] at TK ⊢
 clear ht
 obtain ⟨t0, t1, t2⟩ := t
 have etv : tokV (t0, t1, t2) = .agg #[.int .i64 t0, .string t1, .int .i64 (t2 : Int)] := rfl
 rw [etv] at TK
 have fl := field46_1 (.int .i64 t0) (.string t1) (.int .i64 (t2 : Int))
 clear etv
 go_enter Try.func57, Try.ntmps57
 go_wp2_with fail
 refine TK.out.mono ?_
 rintro e w2 ⟨rfl, h2, g2⟩
 have H2 := hide h2
 have G2 := hide g2
 clear h2 g2
 go_wp2_with fail
 go_ret
 exact ⟨rfl, H2.out, G2.out⟩
end Go.Proofs.Ytboeeaekhijboaa
namespace Go.Proofs.Ytboeeaekhijboaa
open Go.RowKit
set_option linter.unusedVariables false
set_option linter.unusedSimpArgs false

/-- a node was read, or a fault lies there -/
def POut (w : World) (rb pb : Nat) (v : Value) (ts : List Tok) (s : ByteArray) (o : Nat) (r : Rz Nd) (e : Ending) (w' : World) : Prop :=
 (∃ u n, e = .returned u ∧ NV w' (fun x => w.heap.size ≤ x ∧ x < w'.heap.size) u n ∧ ∀ q, r = .ok q → n = q.1) ∧ PS w' rb pb v ts s o r.st ∧ Chg (Pw rb pb) w w'
theorem POut.of {w : World} {rb pb : Nat} {v : Value} {ts : List Tok} {s : ByteArray} {o : Nat} {r r' : Rz Nd} {e : Ending} {w' : World} (h : POut w rb pb v ts s o r e w') (hr : r = r') : POut w rb pb v ts s o r' e w' := hr ▸ h
/-- what is read is where one stands -/
theorem atom_law (ts : List Tok) (s : ByteArray) (inner : Nat → Rz Nd) (k : Nat) (h : eatB ts s bLp k = true) (n : Nd) (hn : ∀ q, inner (k + 1) = .ok q → n = q.1) :
  ((inner (k + 1)).st.then (mustS ts s bRp)) = (atomS ts s inner k).st ∧ ∀ q, atomS ts s inner k = .ok q → n = q.1 := by
 unfold atomS
 rw [if_pos h]
 cases e : inner (k + 1) with
 | error x => exact ⟨rfl, fun q hq => by cases hq⟩
 | ok q =>
   simp only [Rz.bind, Rz.st, St.then]
   cases e2 : mustS ts s bRp q.2 with
   | error x => exact ⟨rfl, fun q hq => by cases hq⟩
   | ok k2 => exact ⟨rfl, fun q' hq => by simp only [St.bind] at hq; cases hq; exact hn q e⟩
theorem atom_law2 (ts : List Tok) (s : ByteArray) (inner : Nat → Rz Nd) (k : Nat) (h : eatB ts s bLp k = false) :
  (tokS ts s 1 k).st = (atomS ts s inner k).st ∧ ∀ q, atomS ts s inner k = .ok q → ((1, (tokOf (tokS ts s 1 k)).2.1, ((tokOf (tokS ts s 1 k)).2.2 : Int), Ns.nil) : Nd) = q.1 := by
 unfold atomS
 rw [if_neg (by rw [h]; decide)]
 cases e : tokS ts s 1 k with
 | error x => exact ⟨rfl, fun q hq => by cases hq⟩
 | ok q => exact ⟨rfl, fun q' hq => by simp only [Rz.bind] at hq; cases hq; rfl⟩
/-- a node in a block of its own -/
theorem nv_set {w : World} {A : Nat} {T : TypeId} {x0 x1 x2 x3 : Value} (h : w.heap[A]? = some (.cells #[x0, x1, x2, x3] T)) (a b c d : Value) :
  ((((w.setCell ⟨A, 0, none⟩ a).setCell ⟨A, 1, none⟩ b).setCell ⟨A, 2, none⟩ c).setCell ⟨A, 3, none⟩ d).heap[A]? = some (.cells #[a, b, c, d] T) ∧ Chg (fun x => x = A) w ((((w.setCell ⟨A, 0, none⟩ a).setCell ⟨A, 1, none⟩ b).setCell ⟨A, 2, none⟩ c).setCell ⟨A, 3, none⟩ d) :=
 ⟨blk_set (blk_set (blk_set (blk_set h 0 a) 1 b) 2 c) 3 d, (((Chg.set w A 0 a).trans (Chg.set _ A 1 b)).trans (Chg.set _ A 2 c)).trans (Chg.set _ A 3 d)⟩
theorem chg_fresh {w w1 w2 : World} {rb pb A : Nat} (h1 : Chg (Pw rb pb) w w1) (h2 : Chg (fun x => x = A) w1 w2) (hA : w.heap.size ≤ A) : Chg (Pw rb pb) w w2 :=
 ((h1.mono (T := fun x => Pw rb pb x ∨ x = A) (fun x _ h => Or.inl h)).trans (h2.mono (fun x _ h => Or.inr h))).mono (fun x hx e => by
   rcases e with e | e
   ·
    exact e
   ·
    omega)

set_option maxRecDepth 100000 in
set_option maxHeartbeats 4000000 in
theorem atom_typ {rb pb : Nat} {v : Value} {ts : List Tok} {s : ByteArray} {o : Nat} (inner : Nat → Rz Nd) (hin : ∀ w k, PS w rb pb v ts s o (.ok k) → Calls Try.prog 43 #[.pointer (some ⟨pb, 0, none⟩)] w (POut w rb pb v ts s o (inner k)))
  {k : Nat} {w : World} (h : PS w rb pb v ts s o (.ok k)) :
  Calls Try.prog 79 #[.pointer (some ⟨pb, 0, none⟩), .func (.func 43) #[.pointer (some ⟨pb, 0, none⟩)] #[]] w (POut w rb pb v ts s o (atomS ts s inner k)) := by
 have G0 := hide (al w (.cells #[.int .i64 0, .string ⟨#[]⟩, .int .i64 0, .slice none 0 0] 51))
 have B0 := hide (blk_new w (.cells #[.int .i64 0, .string ⟨#[]⟩, .int .i64 0, .slice none 0 0] 51))
 have H0 := hide (h.chg G0.out (fun _ _ h => h))
 have hl := h.lt
 have HIN := hide hin
 obtain ⟨A, hA⟩ : ∃ A, w.heap.size = A := ⟨_, rfl⟩
 have HL : Hid (rb < pb ∧ pb < A ∧ w.heap.size = A) := hide ⟨hl.1, by omega, hA⟩
 rw [hA] at B0
 clear h hl hin hA
 cases hb : eatB ts s bLp k
 ·
  have LAW := hide (atom_law2 ts s inner k hb)
  have NX := hide (next_any bLp H0.out)
  have nb : nextB ts s (.ok k) bLp = false := hb
  have ns : nextSt ts s (.ok k) bLp = .ok k := by simp [nextSt, hb]
  rw [nb, ns] at NX
  clear nb ns hb
  generalize atomS ts s inner k = R at *
  go_enter Try.func79, Try.ntmps79
  go_wp2_with fail
  rw [HL.out.2.2]
  generalize w.alloc (.cells #[.int .i64 0, .string ⟨#[]⟩, .int .i64 0, .slice none 0 0] 51) = w1 at *
  refine NX.out.mono ?_
  rintro e w2 ⟨rfl, h2, g2⟩
  have TK := hide (token_any 1 (by decide) h2)
  have B2 := hide (g2.blkS (by have := HL.out; omega) B0.out)
  have G2 := hide (G0.out.none.trans (g2.mono (T := Pw rb pb) (fun x _ h => Or.inr h)))
  clear h2 g2 NX
  have TK : Hid (Calls Try.prog 93 #[.pointer (some ⟨pb, 0, none⟩), .int .i64 1] w2 fun e w' => e = .returned (tokV (tokOf (tokS ts s 1 k))) ∧ PS w' rb pb v ts s o (tokS ts s 1 k).st ∧ Chg (Pw rb pb) w2 w') := TK
  generalize tokS ts s 1 k = r at *
  obtain ⟨t, ht⟩ : ∃ t, tokOf r = t := ⟨_, rfl⟩
  rw [ht] at TK LAW
  clear ht
  obtain ⟨t0, t1, t2⟩ := t
  have etv : tokV (t0, t1, t2) = .agg #[.int .i64 t0, .string t1, .int .i64 (t2 : Int)] := rfl
  rw [etv] at TK
  clear etv
  go_wp2_with fail
  refine TK.out.mono ?_
  rintro e w3 ⟨rfl, h3, g3⟩
  have GT := al w3 (.cells #[.int .i64 t0, .string t1, .int .i64 (t2 : Int)] 75)
  have BT := blk_new w3 (.cells #[.int .i64 t0, .string t1, .int .i64 (t2 : Int)] 75)
  have H3 := hide (h3.chg GT (fun _ _ h => h))
  have B3 := hide (GT.blk (g3.blkS (by have := HL.out; omega) B2.out))
  have G3 := hide ((G2.out.trans g3).trans GT.none)
  have q1 := blk_cell BT 1
  have q2 := blk_cell BT 2
  simp only [gets] at q1 q2
  rw [LAW.out.1] at H3
  clear h3 g3 GT BT
  have b0 := blk_cell B3.out 0
  have b1 := blk_cell B3.out 1
  have b2 := blk_cell B3.out 2
  have b3 := blk_cell B3.out 3
  have f0 := blk_free B3.out 0
  have f1 := blk_free B3.out 1
  have f2 := blk_free B3.out 2
  have f3 := blk_free B3.out 3
  have NS := hide (nv_set B3.out (.int .i64 1) (.string t1) (.int .i64 (t2 : Int)) (.slice none 0 0))
  have FS := hide (H3.out.chg NS.out.2 (fun x hx e => by have h1 := HL.out; omega))
  have CS := hide (chg_fresh G3.out NS.out.2 (by have h1 := HL.out; omega))
  go_wp2_with fail
  generalize (((((w3.alloc (.cells #[.int .i64 t0, .string t1, .int .i64 (t2 : Int)] 75)).setCell ⟨A, 0, none⟩ (.int .i64 1)).setCell ⟨A, 1, none⟩ (.string t1)).setCell ⟨A, 2, none⟩ (.int .i64 (t2 : Int))).setCell ⟨A, 3, none⟩ (.slice none 0 0)) = wF at *
  have r0 := blk_cell NS.out.1 0
  have r1 := blk_cell NS.out.1 1
  have r2 := blk_cell NS.out.1 2
  have r3 := blk_cell NS.out.1 3
  refine bodyPost_ret (v := .agg #[.int .i64 1, .string t1, .int .i64 (t2 : Int), .slice none 0 0]) (by simp [results, Try.results79, go_sem, r0, r1, r2, r3]) rfl ?_
  exact ⟨⟨_, _, rfl, NV.leaf _ _ 1 t1 (t2 : Int), LAW.out.2⟩, FS.out, CS.out⟩
 ·
  have LAW := hide (fun n hn => atom_law ts s inner k hb n hn)
  have NX := hide (next_any bLp H0.out)
  have nb : nextB ts s (.ok k) bLp = true := hb
  have ns : nextSt ts s (.ok k) bLp = .ok (k + 1) := by simp [nextSt, hb]
  rw [nb, ns] at NX
  clear nb ns hb
  generalize atomS ts s inner k = R at *
  go_enter Try.func79, Try.ntmps79
  go_wp2_with fail
  rw [HL.out.2.2]
  generalize w.alloc (.cells #[.int .i64 0, .string ⟨#[]⟩, .int .i64 0, .slice none 0 0] 51) = w1 at *
  refine NX.out.mono ?_
  rintro e w2 ⟨rfl, h2, g2⟩
  have H2 := hide h2
  have B2 := hide (g2.blkS (by have := HL.out; omega) B0.out)
  have G2 := hide (G0.out.none.trans (g2.mono (T := Pw rb pb) (fun x _ h => Or.inr h)))
  have Z2 : Hid (w.heap.size ≤ w2.heap.size) := hide (by have h1 := G0.out.size; have h3 := g2.size; omega)
  clear h2 g2 NX
  go_wp2_with fail
  refine (HIN.out w2 (k + 1) H2.out).mono ?_
  rintro e w3 ⟨⟨u, n, rfl, hn, hq⟩, h3, g3⟩
  obtain ⟨ka, kc, rfl, _⟩ := id hn
  have LW := hide (LAW.out n hq)
  clear LAW hq
  obtain ⟨n0, n1, n2, n3⟩ := n
  dsimp only [Nd.kind, Nd.word, Nd.at, Nd.kids] at *
  have GT := al w3 (.cells #[.int .i64 n0, .string n1, .int .i64 n2, .slice ka n3.len kc] 51)
  have BT := hide (blk_new w3 (.cells #[.int .i64 n0, .string n1, .int .i64 n2, .slice ka n3.len kc] 51))
  have H3 := hide (h3.chg GT (fun _ _ h => h))
  have N3 := hide ((hn.chg GT (fun _ _ h => h)).up (Y := fun x => w.heap.size ≤ x ∧ x < w3.heap.size ∧ x ≠ A) (fun x hx => ⟨by have := Z2.out; omega, hx.2, by have h1 := olt B2.out; omega⟩))
  have B3 := hide (GT.blk (g3.blkS (by have := HL.out; omega) B2.out))
  have G3 := hide ((G2.out.trans g3).trans GT.none)
  obtain ⟨D, hD⟩ : ∃ D, w3.heap.size = D := ⟨_, rfl⟩
  have Z3 := hide (olt BT.out)
  rw [hD] at N3 BT Z3
  have DL : Hid (pb < D ∧ A < D ∧ rb < D) := hide (by have h1 := h3.lt; have h2 := olt (g3.blkS (by have := HL.out; omega) B2.out); omega)
  clear h3 g3 GT hn
  go_wp2_with fail
  clear hD
  generalize w3.alloc (.cells #[.int .i64 n0, .string n1, .int .i64 n2, .slice ka n3.len kc] 51) = w4 at *
  refine (must_any bRp H3.out).mono ?_
  rintro e w5 ⟨rfl, h5, g5⟩
  have H5 := hide h5
  rw [LW.out.1] at H5
  have B5 := hide (g5.blkS (by have := HL.out; rintro (e | e) <;> omega) B3.out)
  have T5 := hide (g5.blkS (by have := DL.out; rintro (e | e) <;> omega) BT.out)
  have G5 := hide (G3.out.trans g5)
  have N5 := hide (N3.out.chg g5 (fun x hx e => by have h1 := hx.1; have h2 := HL.out; rcases e with e | e <;> omega))
  have Z5 : Hid (D < w5.heap.size) := hide (by have h1 := g5.size; have h2 := Z3.out; omega)
  clear h5 g5 N3
  have q0 := blk_cell T5.out 0
  have q1 := blk_cell T5.out 1
  have q2 := blk_cell T5.out 2
  have q3 := blk_cell T5.out 3
  simp only [gets] at q0 q1 q2 q3
  have b0 := blk_cell B5.out 0
  have b1 := blk_cell B5.out 1
  have b2 := blk_cell B5.out 2
  have b3 := blk_cell B5.out 3
  have f0 := blk_free B5.out 0
  have f1 := blk_free B5.out 1
  have f2 := blk_free B5.out 2
  have f3 := blk_free B5.out 3
  have NS := hide (nv_set B5.out (.int .i64 n0) (.string n1) (.int .i64 n2) (.slice ka n3.len kc))
  have FS := hide (H5.out.chg NS.out.2 (fun x hx e => by have h1 := HL.out; omega))
  have CS := hide (chg_fresh G5.out NS.out.2 (by have h1 := HL.out; omega))
  go_wp2_with fail
  generalize ((((w5.setCell ⟨A, 0, none⟩ (.int .i64 n0)).setCell ⟨A, 1, none⟩ (.string n1)).setCell ⟨A, 2, none⟩ (.int .i64 n2)).setCell ⟨A, 3, none⟩ (.slice ka n3.len kc)) = wF at *
  have r0 := blk_cell NS.out.1 0
  have r1 := blk_cell NS.out.1 1
  have r2 := blk_cell NS.out.1 2
  have r3 := blk_cell NS.out.1 3
  refine bodyPost_ret (v := .agg #[.int .i64 n0, .string n1, .int .i64 n2, .slice ka n3.len kc]) (by simp [results, Try.results79, go_sem, r0, r1, r2, r3]) rfl ?_
  have N7 := N5.out.chg NS.out.2 (fun x hx e => hx.2.2 e)
  exact ⟨⟨_, _, rfl, N7.up (fun x hx => ⟨hx.1, by have h1 := NS.out.2.size; have h2 := Z5.out; omega⟩), LW.out.2⟩, FS.out, CS.out⟩

set_option maxRecDepth 100000 in
set_option maxHeartbeats 4000000 in
theorem atom_term {rb pb : Nat} {v : Value} {ts : List Tok} {s : ByteArray} {o : Nat} (inner : Nat → Rz Nd) (hin : ∀ w k, PS w rb pb v ts s o (.ok k) → Calls Try.prog 40 #[.pointer (some ⟨pb, 0, none⟩)] w (POut w rb pb v ts s o (inner k)))
  {k : Nat} {w : World} (h : PS w rb pb v ts s o (.ok k)) :
  Calls Try.prog 79 #[.pointer (some ⟨pb, 0, none⟩), .func (.func 40) #[.pointer (some ⟨pb, 0, none⟩)] #[]] w (POut w rb pb v ts s o (atomS ts s inner k)) := by
 have G0 := hide (al w (.cells #[.int .i64 0, .string ⟨#[]⟩, .int .i64 0, .slice none 0 0] 51))
 have B0 := hide (blk_new w (.cells #[.int .i64 0, .string ⟨#[]⟩, .int .i64 0, .slice none 0 0] 51))
 have H0 := hide (h.chg G0.out (fun _ _ h => h))
 have hl := h.lt
 have HIN := hide hin
 obtain ⟨A, hA⟩ : ∃ A, w.heap.size = A := ⟨_, rfl⟩
 have HL : Hid (rb < pb ∧ pb < A ∧ w.heap.size = A) := hide ⟨hl.1, by omega, hA⟩
 rw [hA] at B0
 clear h hl hin hA
 cases hb : eatB ts s bLp k
 ·
  have LAW := hide (atom_law2 ts s inner k hb)
  have NX := hide (next_any bLp H0.out)
  have nb : nextB ts s (.ok k) bLp = false := hb
  have ns : nextSt ts s (.ok k) bLp = .ok k := by simp [nextSt, hb]
  rw [nb, ns] at NX
  clear nb ns hb
  generalize atomS ts s inner k = R at *
  go_enter Try.func79, Try.ntmps79
  go_wp2_with fail
  rw [HL.out.2.2]
  generalize w.alloc (.cells #[.int .i64 0, .string ⟨#[]⟩, .int .i64 0, .slice none 0 0] 51) = w1 at *
  refine NX.out.mono ?_
  rintro e w2 ⟨rfl, h2, g2⟩
  have TK := hide (token_any 1 (by decide) h2)
  have B2 := hide (g2.blkS (by have := HL.out; omega) B0.out)
  have G2 := hide (G0.out.none.trans (g2.mono (T := Pw rb pb) (fun x _ h => Or.inr h)))
  clear h2 g2 NX
  have TK : Hid (Calls Try.prog 93 #[.pointer (some ⟨pb, 0, none⟩), .int .i64 1] w2 fun e w' => e = .returned (tokV (tokOf (tokS ts s 1 k))) ∧ PS w' rb pb v ts s o (tokS ts s 1 k).st ∧ Chg (Pw rb pb) w2 w') := TK
  generalize tokS ts s 1 k = r at *
  obtain ⟨t, ht⟩ : ∃ t, tokOf r = t := ⟨_, rfl⟩
  rw [ht] at TK LAW
  clear ht
  obtain ⟨t0, t1, t2⟩ := t
  have etv : tokV (t0, t1, t2) = .agg #[.int .i64 t0, .string t1, .int .i64 (t2 : Int)] := rfl
  rw [etv] at TK
  clear etv
  go_wp2_with fail
  refine TK.out.mono ?_
  rintro e w3 ⟨rfl, h3, g3⟩
  have GT := al w3 (.cells #[.int .i64 t0, .string t1, .int .i64 (t2 : Int)] 75)
  have BT := blk_new w3 (.cells #[.int .i64 t0, .string t1, .int .i64 (t2 : Int)] 75)
  have H3 := hide (h3.chg GT (fun _ _ h => h))
  have B3 := hide (GT.blk (g3.blkS (by have := HL.out; omega) B2.out))
  have G3 := hide ((G2.out.trans g3).trans GT.none)
  have q1 := blk_cell BT 1
  have q2 := blk_cell BT 2
  simp only [gets] at q1 q2
  rw [LAW.out.1] at H3
  clear h3 g3 GT BT
  have b0 := blk_cell B3.out 0
  have b1 := blk_cell B3.out 1
  have b2 := blk_cell B3.out 2
  have b3 := blk_cell B3.out 3
  have f0 := blk_free B3.out 0
  have f1 := blk_free B3.out 1
  have f2 := blk_free B3.out 2
  have f3 := blk_free B3.out 3
  have NS := hide (nv_set B3.out (.int .i64 1) (.string t1) (.int .i64 (t2 : Int)) (.slice none 0 0))
  have FS := hide (H3.out.chg NS.out.2 (fun x hx e => by have h1 := HL.out; omega))
  have CS := hide (chg_fresh G3.out NS.out.2 (by have h1 := HL.out; omega))
  go_wp2_with fail
  generalize (((((w3.alloc (.cells #[.int .i64 t0, .string t1, .int .i64 (t2 : Int)] 75)).setCell ⟨A, 0, none⟩ (.int .i64 1)).setCell ⟨A, 1, none⟩ (.string t1)).setCell ⟨A, 2, none⟩ (.int .i64 (t2 : Int))).setCell ⟨A, 3, none⟩ (.slice none 0 0)) = wF at *
  have r0 := blk_cell NS.out.1 0
  have r1 := blk_cell NS.out.1 1
  have r2 := blk_cell NS.out.1 2
  have r3 := blk_cell NS.out.1 3
  refine bodyPost_ret (v := .agg #[.int .i64 1, .string t1, .int .i64 (t2 : Int), .slice none 0 0]) (by simp [results, Try.results79, go_sem, r0, r1, r2, r3]) rfl ?_
  exact ⟨⟨_, _, rfl, NV.leaf _ _ 1 t1 (t2 : Int), LAW.out.2⟩, FS.out, CS.out⟩
 ·
  have LAW := hide (fun n hn => atom_law ts s inner k hb n hn)
  have NX := hide (next_any bLp H0.out)
  have nb : nextB ts s (.ok k) bLp = true := hb
  have ns : nextSt ts s (.ok k) bLp = .ok (k + 1) := by simp [nextSt, hb]
  rw [nb, ns] at NX
  clear nb ns hb
  generalize atomS ts s inner k = R at *
  go_enter Try.func79, Try.ntmps79
  go_wp2_with fail
  rw [HL.out.2.2]
  generalize w.alloc (.cells #[.int .i64 0, .string ⟨#[]⟩, .int .i64 0, .slice none 0 0] 51) = w1 at *
  refine NX.out.mono ?_
  rintro e w2 ⟨rfl, h2, g2⟩
  have H2 := hide h2
  have B2 := hide (g2.blkS (by have := HL.out; omega) B0.out)
  have G2 := hide (G0.out.none.trans (g2.mono (T := Pw rb pb) (fun x _ h => Or.inr h)))
  have Z2 : Hid (w.heap.size ≤ w2.heap.size) := hide (by have h1 := G0.out.size; have h3 := g2.size; omega)
  clear h2 g2 NX
  go_wp2_with fail
  refine (HIN.out w2 (k + 1) H2.out).mono ?_
  rintro e w3 ⟨⟨u, n, rfl, hn, hq⟩, h3, g3⟩
  obtain ⟨ka, kc, rfl, _⟩ := id hn
  have LW := hide (LAW.out n hq)
  clear LAW hq
  obtain ⟨n0, n1, n2, n3⟩ := n
  dsimp only [Nd.kind, Nd.word, Nd.at, Nd.kids] at *
  have GT := al w3 (.cells #[.int .i64 n0, .string n1, .int .i64 n2, .slice ka n3.len kc] 51)
  have BT := hide (blk_new w3 (.cells #[.int .i64 n0, .string n1, .int .i64 n2, .slice ka n3.len kc] 51))
  have H3 := hide (h3.chg GT (fun _ _ h => h))
  have N3 := hide ((hn.chg GT (fun _ _ h => h)).up (Y := fun x => w.heap.size ≤ x ∧ x < w3.heap.size ∧ x ≠ A) (fun x hx => ⟨by have := Z2.out; omega, hx.2, by have h1 := olt B2.out; omega⟩))
  have B3 := hide (GT.blk (g3.blkS (by have := HL.out; omega) B2.out))
  have G3 := hide ((G2.out.trans g3).trans GT.none)
  obtain ⟨D, hD⟩ : ∃ D, w3.heap.size = D := ⟨_, rfl⟩
  have Z3 := hide (olt BT.out)
  rw [hD] at N3 BT Z3
  have DL : Hid (pb < D ∧ A < D ∧ rb < D) := hide (by have h1 := h3.lt; have h2 := olt (g3.blkS (by have := HL.out; omega) B2.out); omega)
  clear h3 g3 GT hn
  go_wp2_with fail
  clear hD
  generalize w3.alloc (.cells #[.int .i64 n0, .string n1, .int .i64 n2, .slice ka n3.len kc] 51) = w4 at *
  refine (must_any bRp H3.out).mono ?_
  rintro e w5 ⟨rfl, h5, g5⟩
  have H5 := hide h5
  rw [LW.out.1] at H5
  have B5 := hide (g5.blkS (by have := HL.out; rintro (e | e) <;> omega) B3.out)
  have T5 := hide (g5.blkS (by have := DL.out; rintro (e | e) <;> omega) BT.out)
  have G5 := hide (G3.out.trans g5)
  have N5 := hide (N3.out.chg g5 (fun x hx e => by have h1 := hx.1; have h2 := HL.out; rcases e with e | e <;> omega))
  have Z5 : Hid (D < w5.heap.size) := hide (by have h1 := g5.size; have h2 := Z3.out; omega)
  clear h5 g5 N3
  have q0 := blk_cell T5.out 0
  have q1 := blk_cell T5.out 1
  have q2 := blk_cell T5.out 2
  have q3 := blk_cell T5.out 3
  simp only [gets] at q0 q1 q2 q3
  have b0 := blk_cell B5.out 0
  have b1 := blk_cell B5.out 1
  have b2 := blk_cell B5.out 2
  have b3 := blk_cell B5.out 3
  have f0 := blk_free B5.out 0
  have f1 := blk_free B5.out 1
  have f2 := blk_free B5.out 2
  have f3 := blk_free B5.out 3
  have NS := hide (nv_set B5.out (.int .i64 n0) (.string n1) (.int .i64 n2) (.slice ka n3.len kc))
  have FS := hide (H5.out.chg NS.out.2 (fun x hx e => by have h1 := HL.out; omega))
  have CS := hide (chg_fresh G5.out NS.out.2 (by have h1 := HL.out; omega))
  go_wp2_with fail
  generalize ((((w5.setCell ⟨A, 0, none⟩ (.int .i64 n0)).setCell ⟨A, 1, none⟩ (.string n1)).setCell ⟨A, 2, none⟩ (.int .i64 n2)).setCell ⟨A, 3, none⟩ (.slice ka n3.len kc)) = wF at *
  have r0 := blk_cell NS.out.1 0
  have r1 := blk_cell NS.out.1 1
  have r2 := blk_cell NS.out.1 2
  have r3 := blk_cell NS.out.1 3
  refine bodyPost_ret (v := .agg #[.int .i64 n0, .string n1, .int .i64 n2, .slice ka n3.len kc]) (by simp [results, Try.results79, go_sem, r0, r1, r2, r3]) rfl ?_
  have N7 := N5.out.chg NS.out.2 (fun x hx e => hx.2.2 e)
  exact ⟨⟨_, _, rfl, N7.up (fun x hx => ⟨hx.1, by have h1 := NS.out.2.size; have h2 := Z5.out; omega⟩), LW.out.2⟩, FS.out, CS.out⟩
end Go.Proofs.Ytboeeaekhijboaa
