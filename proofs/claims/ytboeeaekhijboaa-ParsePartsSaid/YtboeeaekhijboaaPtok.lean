/- The program's parser: next, must, token, word. -/
import Derived.Test.YtboeeaekhijboaaPst
namespace Go.Proofs.Ytboeeaekhijboaa
open Go.RowKit
set_option linter.unusedVariables false
set_option linter.unusedSimpArgs false

theorem takes_one (ts : List Tok) (s : ByteArray) (k : Nat) (t : ByteArray) : takes (fun i => tokAt ts s k i) 0 [t] = eatB ts s t k := by
  simp [takes, eatB]
def nextB (ts : List Tok) (s : ByteArray) (st : St) (t : ByteArray) : Bool := match st with
  | .ok k => eatB ts s t k
  | .error _ => false
def nextSt (ts : List Tok) (s : ByteArray) (st : St) (t : ByteArray) : St := match st with
  | .ok k => .ok (if eatB ts s t k = true then k + 1 else k)
  | .error e => .error e
theorem txs_one (w : World) (t : ByteArray) : Txs (w.alloc (.cells #[.string t] 9)) (w.heap.size + 1) (some ⟨w.heap.size, 0, none⟩) [t] :=
  Or.inr ⟨w.heap.size, 0, rfl, Nat.lt_succ_self _, fun i hi => by
    match i, hi with
    | 0, _ => exact blk_cell (blk_new w (.cells #[.string t] 9)) 0⟩

set_option maxRecDepth 100000 in
theorem next_any {rb pb : Nat} {v : Value} {ts : List Tok} {s : ByteArray} {o : Nat} {st : St} (t : ByteArray) {w : World} (h : PS w rb pb v ts s o st) :
    Calls Try.prog 77 #[.pointer (some ⟨pb, 0, none⟩), .string t] w fun e w' => e = .returned (.bool (nextB ts s st t)) ∧ PS w' rb pb v ts s o (nextSt ts s st t) ∧ Chg (fun x => x = rb) w w' := by
  cases st with
  | error x =>
    have HP := hide h
    have OK := hide (ok_err h)
    clear h
    go_enter Try.func77, Try.ntmps77
    go_wp2_with fail
    refine OK.out.mono ?_
    rintro e w' ⟨rfl, rfl⟩
    go_wp2_with fail
    go_ret
    exact ⟨rfl, HP.out, Chg.refl _ _⟩
  | ok k =>
    have HP := hide h
    have OK := hide (ok_ok h)
    obtain ⟨c0, c1, _, _, _, _⟩ := h.cells
    have GA := al w (.cells #[.string t] 9)
    have hl := h.lt
    have TK := hide (take_some rb rb (w.heap.size + 1) v ts s k h.le (by have := h.env.len; omega) (by have := h.env.size; omega) (some ⟨w.heap.size, 0, none⟩) 1 1 [t] rfl (by decide) (w.alloc (.cells #[.string t] 9)) (h.rd.chg GA (fun h => h)) (h.tks.chg GA (fun _ _ h => h)) (txs_one w t))
    rw [takes_one] at TK
    have H1 := hide (h.chg GA (fun _ _ h => h))
    have G1 := hide GA
    clear h GA hl
    have FIN : Hid (∀ w', Chg (fun x => x = rb) (w.alloc (.cells #[.string t] 9)) w' → Rd w' rb 106 v s (if eatB ts s t k = true then k + 1 else k) → PS w' rb pb v ts s o (.ok (if eatB ts s t k = true then k + 1 else k))) := hide (fun w' g hr => H1.out.moved g hr (by
      by_cases hb : eatB ts s t k = true
      · rw [if_pos hb]; exact eatB_lt hb
      · rw [if_neg hb]; exact H1.out.le))
    show Calls Try.prog 77 #[.pointer (some ⟨pb, 0, none⟩), .string t] w fun e w' => e = .returned (.bool (eatB ts s t k)) ∧ PS w' rb pb v ts s o (.ok (if eatB ts s t k = true then k + 1 else k)) ∧ Chg (fun x => x = rb) w w'
    generalize eatB ts s t k = b at *
    generalize (if b = true then k + 1 else k) = k' at *
    go_enter Try.func77, Try.ntmps77
    go_wp2_with fail
    refine OK.out.mono ?_
    rintro e w' ⟨rfl, rfl⟩
    go_wp2_with fail
    refine TK.out.mono ?_
    rintro e w2 ⟨rfl, hr, g2⟩
    have F := hide (FIN.out w2 g2 hr)
    have G := hide (G1.out.none.trans g2)
    clear hr g2
    go_wp2_with fail
    go_ret
    exact ⟨rfl, F.out, G.out⟩

set_option maxRecDepth 100000 in
theorem must_any {rb pb : Nat} {v : Value} {ts : List Tok} {s : ByteArray} {o : Nat} {st : St} (t : ByteArray) {w : World} (h : PS w rb pb v ts s o st) :
    Calls Try.prog 60 #[.pointer (some ⟨pb, 0, none⟩), .string t] w fun e w' => e = .returned (.tuple #[]) ∧ PS w' rb pb v ts s o (st.then (mustS ts s t)) ∧ Chg (Pw rb pb) w w' := by
  cases st with
  | error x =>
    have HP := hide h
    have OK := hide (ok_err h)
    clear h
    go_enter Try.func60, Try.ntmps60
    go_wp2_with fail
    refine OK.out.mono ?_
    rintro e w' ⟨rfl, rfl⟩
    go_wp2_with fail
    go_end0
    exact ⟨rfl, HP.out, Chg.refl _ _⟩
  | ok k =>
    have HP := hide h
    have OK := hide (ok_ok h)
    obtain ⟨c0, c1, _, _, _, _⟩ := h.cells
    have GA := al w (.cells #[.string t] 9)
    have hl := h.lt
    have TK := hide (take_some rb rb (w.heap.size + 1) v ts s k h.le (by have := h.env.len; omega) (by have := h.env.size; omega) (some ⟨w.heap.size, 0, none⟩) 1 1 [t] rfl (by decide) (w.alloc (.cells #[.string t] 9)) (h.rd.chg GA (fun h => h)) (h.tks.chg GA (fun _ _ h => h)) (txs_one w t))
    rw [takes_one] at TK
    have H1 := hide (h.chg GA (fun _ _ h => h))
    have G1 := hide GA
    clear h GA hl
    show Calls Try.prog 60 #[.pointer (some ⟨pb, 0, none⟩), .string t] w fun e w' => e = .returned (.tuple #[]) ∧ PS w' rb pb v ts s o (mustS ts s t k) ∧ Chg (Pw rb pb) w w'
    cases hb : eatB ts s t k
    · have HM : Hid (mustS ts s t k = .error (3, k)) := hide (by unfold mustS; rw [if_neg (by rw [hb]; decide)])
      rw [hb] at TK
      rw [HM.out]
      clear hb
      go_enter Try.func60, Try.ntmps60
      go_wp2_with fail
      refine OK.out.mono ?_
      rintro e w' ⟨rfl, rfl⟩
      go_wp2_with fail
      refine TK.out.mono ?_
      rintro e w2 ⟨rfl, hr, g2⟩
      rw [if_neg (by decide)] at hr
      have F := hide (H1.out.moved g2 hr H1.out.le)
      have G := hide (G1.out.none.trans g2)
      clear hr g2
      go_wp2_with fail
      refine (fail_ok 3 (Or.inr rfl) F.out).mono ?_
      rintro e w3 ⟨rfl, h3, g3⟩
      have F3 := hide h3
      have G3 := hide ((G.out.mono (T := Pw rb pb) (fun x _ h => Or.inr h)).trans (g3.mono (fun x _ h => Or.inl h)))
      clear h3 g3
      go_wp2_with fail
      go_end0
      exact ⟨rfl, F3.out, G3.out⟩
    · have HM : Hid (mustS ts s t k = .ok (k + 1)) := hide (by unfold mustS; rw [if_pos hb])
      have HL := hide (eatB_lt hb)
      rw [hb] at TK
      rw [HM.out]
      clear hb
      go_enter Try.func60, Try.ntmps60
      go_wp2_with fail
      refine OK.out.mono ?_
      rintro e w' ⟨rfl, rfl⟩
      go_wp2_with fail
      refine TK.out.mono ?_
      rintro e w2 ⟨rfl, hr, g2⟩
      first | rw [if_pos trivial] at hr | rw [if_pos rfl] at hr
      have F := hide (H1.out.moved g2 hr HL.out)
      have G := hide (G1.out.none.trans g2)
      clear hr g2
      go_wp2_with fail
      go_end0
      exact ⟨rfl, F.out, G.out.mono (fun x _ h => Or.inr h)⟩

/-- the token that was read, or none -/
def tokOf : Rz Tok → Tok
  | .ok q => q.1
  | .error _ => (0, ⟨#[]⟩, 0)
theorem tok_on {ts : List Tok} {k : Nat} (h : k < ts.length) : on ts k = k + 1 := by unfold on; rw [if_pos h]
set_option maxRecDepth 100000 in
theorem field75_0 (a b c : Value) (w : World) : Sem.run Try.prog (Instr.field 75 (.agg #[a, b, c]) 0) w = .ok a w := rfl

set_option maxRecDepth 100000 in
theorem token_any {rb pb : Nat} {v : Value} {ts : List Tok} {s : ByteArray} {o : Nat} {st : St} (kind : Int) (hk : kind ≠ 4) {w : World} (h : PS w rb pb v ts s o st) :
    Calls Try.prog 93 #[.pointer (some ⟨pb, 0, none⟩), .int .i64 kind] w fun e w' => e = .returned (tokV (tokOf (st.bind (tokS ts s kind)))) ∧ PS w' rb pb v ts s o (st.bind (tokS ts s kind)).st ∧ Chg (Pw rb pb) w w' := by
  have G0 := hide (al w (.cells #[.int .i64 0, .string ⟨#[]⟩, .int .i64 0] 75))
  have B0 := hide (blk_new w (.cells #[.int .i64 0, .string ⟨#[]⟩, .int .i64 0] 75))
  have H0 := hide (h.chg G0.out (fun _ _ h => h))
  have hl := hide h.lt
  clear h
  obtain ⟨A, hA⟩ : ∃ A, w.heap.size = A := ⟨_, rfl⟩
  have HA := hide hA
  cases st with
  | error x =>
    show Calls Try.prog 93 #[.pointer (some ⟨pb, 0, none⟩), .int .i64 kind] w fun e w' => e = .returned (.agg #[.int .i64 0, .string ⟨#[]⟩, .int .i64 0]) ∧ PS w' rb pb v ts s o (.error x) ∧ Chg (Pw rb pb) w w'
    rw [hA] at B0
    clear hA
    go_enter Try.func93, Try.ntmps93
    go_wp2_with fail
    rw [HA.out]
    generalize w.alloc (.cells #[.int .i64 0, .string ⟨#[]⟩, .int .i64 0] 75) = w1 at *
    refine (ok_err H0.out).mono ?_
    rintro e w' ⟨rfl, rfl⟩
    go_wp2_with fail
    refine (ok_err H0.out).mono ?_
    rintro e w' ⟨rfl, rfl⟩
    have b0 := blk_cell B0.out 0
    have b1 := blk_cell B0.out 1
    have b2 := blk_cell B0.out 2
    have f0 := blk_free B0.out 0
    have f1 := blk_free B0.out 1
    have f2 := blk_free B0.out 2
    have B3 := hide (blk_set (blk_set (blk_set B0.out 0 (.int .i64 0)) 1 (.string ⟨#[]⟩)) 2 (.int .i64 0))
    have G3 := hide (((Chg.set w1 A 0 (.int .i64 0)).trans (Chg.set _ A 1 (.string ⟨#[]⟩))).trans (Chg.set _ A 2 (.int .i64 0)))
    have F3 := hide (H0.out.chg G3.out (fun x hx e => by have h1 := hl.out; have h2 := HA.out; omega))
    have C3 : Hid (Chg (Pw rb pb) w (((w1.setCell ⟨A, 0, none⟩ (.int .i64 0)).setCell ⟨A, 1, none⟩ (.string ⟨#[]⟩)).setCell ⟨A, 2, none⟩ (.int .i64 0))) := hide ((G0.out.none.trans G3.out).mono (fun x hx e => by have h2 := HA.out; omega))
    go_wp2_with fail
    generalize (((w1.setCell ⟨A, 0, none⟩ (.int .i64 0)).setCell ⟨A, 1, none⟩ (.string ⟨#[]⟩)).setCell ⟨A, 2, none⟩ (.int .i64 0)) = wF at *
    have r0 := blk_cell B3.out 0
    have r1 := blk_cell B3.out 1
    have r2 := blk_cell B3.out 2
    exact bodyPost_ret (v := .agg #[.int .i64 0, .string ⟨#[]⟩, .int .i64 0]) (by simp [results, Try.results93, go_sem, r0, r1, r2]) rfl ⟨rfl, F3.out, C3.out⟩
  | ok k =>
    obtain ⟨t, ht⟩ : ∃ t, tokAt ts s k 0 = t := ⟨_, rfl⟩
    by_cases hkd : t.1 = kind
    · have HR : Hid (tokS ts s kind k = .ok (t, k + 1)) := hide (by unfold tokS; rw [ht, if_pos hkd])
      have HL : Hid (k < ts.length) := hide (tokAt_len (s := s) (by rw [ht, hkd]; exact hk))
      show Calls Try.prog 93 #[.pointer (some ⟨pb, 0, none⟩), .int .i64 kind] w fun e w' => e = .returned (tokV (tokOf (tokS ts s kind k))) ∧ PS w' rb pb v ts s o (tokS ts s kind k).st ∧ Chg (Pw rb pb) w w'
      rw [HR.out]
      show Calls Try.prog 93 #[.pointer (some ⟨pb, 0, none⟩), .int .i64 kind] w fun e w' => e = .returned (tokV t) ∧ PS w' rb pb v ts s o (.ok (k + 1)) ∧ Chg (Pw rb pb) w w'
      have PK := hide (fun w' (h : PS w' rb pb v ts s o (.ok k)) => peek_some rb rb v ts s k 0 h.le (by have := h.env.len; omega) (by have := h.env.size; omega) w' h.rd h.tks)
      have NX := hide (fun w' (h : PS w' rb pb v ts s o (.ok k)) => next_some rb rb v ts s k h.le (by have := h.env.len; omega) (by have := h.env.size; omega) w' h.rd h.tks)
      have HO := hide (tok_on HL.out)
      rw [ht] at PK NX
      rw [HO.out] at NX
      obtain ⟨t0, t1, t2⟩ := t
      dsimp only at hkd
      subst hkd
      have etv : tokV (t0, t1, t2) = .agg #[.int .i64 t0, .string t1, .int .i64 (t2 : Int)] := rfl
      rw [etv] at PK NX ⊢
      have fl0 := field75_0 (.int .i64 t0) (.string t1) (.int .i64 (t2 : Int))
      rw [hA] at B0
      clear hA ht etv
      go_enter Try.func93, Try.ntmps93
      go_wp2_with fail
      rw [HA.out]
      generalize w.alloc (.cells #[.int .i64 0, .string ⟨#[]⟩, .int .i64 0] 75) = w1 at *
      obtain ⟨c0, c1, _, _, _, _⟩ := H0.out.cells
      refine (ok_ok H0.out).mono ?_
      rintro e w' ⟨rfl, rfl⟩
      go_wp2_with fail
      refine (PK.out w1 H0.out).mono ?_
      rintro e w2 ⟨rfl, g2⟩
      have H2 := hide (H0.out.chg g2 (fun _ _ h => h))
      have B2 := hide (g2.blk B0.out)
      have G2 := hide (G0.out.trans g2)
      clear g2
      go_wp2_with fail
      refine (ok_ok H2.out).mono ?_
      rintro e w' ⟨rfl, rfl⟩
      obtain ⟨c0, c1, _, _, _, _⟩ := H2.out.cells
      go_wp2_with fail
      refine (NX.out w2 H2.out).mono ?_
      rintro e w3 ⟨rfl, hr, g3⟩
      have H3 := hide (H2.out.moved g3 hr HL.out)
      have B4 := hide (g3.blkS (by have h1 := hl.out; have h2 := HA.out; omega) B2.out)
      have G3 := hide (G2.out.none.trans g3)
      clear hr g3
      have b0 := blk_cell B4.out 0
      have b1 := blk_cell B4.out 1
      have b2 := blk_cell B4.out 2
      have f0 := blk_free B4.out 0
      have f1 := blk_free B4.out 1
      have f2 := blk_free B4.out 2
      have B5 := hide (blk_set (blk_set (blk_set B4.out 0 (.int .i64 t0)) 1 (.string t1)) 2 (.int .i64 (t2 : Int)))
      have G5 := hide (((Chg.set w3 A 0 (.int .i64 t0)).trans (Chg.set _ A 1 (.string t1))).trans (Chg.set _ A 2 (.int .i64 (t2 : Int))))
      have F5 := hide (H3.out.chg G5.out (fun x hx e => by have h1 := hl.out; have h2 := HA.out; omega))
      have C5 : Hid (Chg (Pw rb pb) w (((w3.setCell ⟨A, 0, none⟩ (.int .i64 t0)).setCell ⟨A, 1, none⟩ (.string t1)).setCell ⟨A, 2, none⟩ (.int .i64 (t2 : Int)))) := hide (((G3.out.mono (T := fun x => Pw rb pb x ∨ x = A) (fun x _ h => Or.inl (Or.inr h))).trans (G5.out.mono (fun x _ h => Or.inr h))).mono (fun x hx e => by
        rcases e with e | e
        · exact e
        · have h2 := HA.out; omega))
      go_wp2_with fail
      generalize (((w3.setCell ⟨A, 0, none⟩ (.int .i64 t0)).setCell ⟨A, 1, none⟩ (.string t1)).setCell ⟨A, 2, none⟩ (.int .i64 (t2 : Int))) = wF at *
      have r0 := blk_cell B5.out 0
      have r1 := blk_cell B5.out 1
      have r2 := blk_cell B5.out 2
      exact bodyPost_ret (v := .agg #[.int .i64 t0, .string t1, .int .i64 (t2 : Int)]) (by simp [results, Try.results93, go_sem, r0, r1, r2]) rfl ⟨rfl, F5.out, C5.out⟩
    · have HR : Hid (tokS ts s kind k = .error (3, k)) := hide (by unfold tokS; rw [ht, if_neg hkd])
      show Calls Try.prog 93 #[.pointer (some ⟨pb, 0, none⟩), .int .i64 kind] w fun e w' => e = .returned (tokV (tokOf (tokS ts s kind k))) ∧ PS w' rb pb v ts s o (tokS ts s kind k).st ∧ Chg (Pw rb pb) w w'
      rw [HR.out]
      show Calls Try.prog 93 #[.pointer (some ⟨pb, 0, none⟩), .int .i64 kind] w fun e w' => e = .returned (.agg #[.int .i64 0, .string ⟨#[]⟩, .int .i64 0]) ∧ PS w' rb pb v ts s o (.error (3, k)) ∧ Chg (Pw rb pb) w w'
      have PK := hide (fun w' (h : PS w' rb pb v ts s o (.ok k)) => peek_some rb rb v ts s k 0 h.le (by have := h.env.len; omega) (by have := h.env.size; omega) w' h.rd h.tks)
      rw [ht] at PK
      obtain ⟨t0, t1, t2⟩ := t
      dsimp only at hkd
      have hke : (t0 == kind) = false := by simpa using hkd
      have hke2 : (t0 != kind) = true := by simpa using hkd
      have etv : tokV (t0, t1, t2) = .agg #[.int .i64 t0, .string t1, .int .i64 (t2 : Int)] := rfl
      rw [etv] at PK
      have fl0 := field75_0 (.int .i64 t0) (.string t1) (.int .i64 (t2 : Int))
      rw [hA] at B0
      clear hA ht etv
      go_enter Try.func93, Try.ntmps93
      go_wp2_with fail
      rw [HA.out]
      generalize w.alloc (.cells #[.int .i64 0, .string ⟨#[]⟩, .int .i64 0] 75) = w1 at *
      obtain ⟨c0, c1, _, _, _, _⟩ := H0.out.cells
      refine (ok_ok H0.out).mono ?_
      rintro e w' ⟨rfl, rfl⟩
      go_wp2_with fail
      refine (PK.out w1 H0.out).mono ?_
      rintro e w2 ⟨rfl, g2⟩
      have H2 := hide (H0.out.chg g2 (fun _ _ h => h))
      have B2 := hide (g2.blk B0.out)
      have G2 := hide (G0.out.trans g2)
      clear g2
      go_wp2_with fail
      refine (fail_ok 3 (Or.inr rfl) H2.out).mono ?_
      rintro e w3 ⟨rfl, h3, g3⟩
      have H3 := hide h3
      have B4 := hide (g3.blkS (by have h1 := hl.out; have h2 := HA.out; omega) B2.out)
      have G3 := hide (G2.out.none.trans g3)
      clear h3 g3
      go_wp2_with fail
      refine (ok_err H3.out).mono ?_
      rintro e w' ⟨rfl, rfl⟩
      have b0 := blk_cell B4.out 0
      have b1 := blk_cell B4.out 1
      have b2 := blk_cell B4.out 2
      have f0 := blk_free B4.out 0
      have f1 := blk_free B4.out 1
      have f2 := blk_free B4.out 2
      have B5 := hide (blk_set (blk_set (blk_set B4.out 0 (.int .i64 0)) 1 (.string ⟨#[]⟩)) 2 (.int .i64 0))
      have G5 := hide (((Chg.set w3 A 0 (.int .i64 0)).trans (Chg.set _ A 1 (.string ⟨#[]⟩))).trans (Chg.set _ A 2 (.int .i64 0)))
      have F5 := hide (H3.out.chg G5.out (fun x hx e => by have h1 := hl.out; have h2 := HA.out; omega))
      have C5 : Hid (Chg (Pw rb pb) w (((w3.setCell ⟨A, 0, none⟩ (.int .i64 0)).setCell ⟨A, 1, none⟩ (.string ⟨#[]⟩)).setCell ⟨A, 2, none⟩ (.int .i64 0))) := hide (((G3.out.mono (T := fun x => Pw rb pb x ∨ x = A) (fun x _ h => Or.inl (Or.inl h))).trans (G5.out.mono (fun x _ h => Or.inr h))).mono (fun x hx e => by
        rcases e with e | e
        · exact e
        · have h2 := HA.out; omega))
      go_wp2_with fail
      generalize (((w3.setCell ⟨A, 0, none⟩ (.int .i64 0)).setCell ⟨A, 1, none⟩ (.string ⟨#[]⟩)).setCell ⟨A, 2, none⟩ (.int .i64 0)) = wF at *
      have r0 := blk_cell B5.out 0
      have r1 := blk_cell B5.out 1
      have r2 := blk_cell B5.out 2
      exact bodyPost_ret (v := .agg #[.int .i64 0, .string ⟨#[]⟩, .int .i64 0]) (by simp [results, Try.results93, go_sem, r0, r1, r2]) rfl ⟨rfl, F5.out, C5.out⟩

set_option maxRecDepth 100000 in
theorem word_any {rb pb : Nat} {v : Value} {ts : List Tok} {s : ByteArray} {o : Nat} {st : St} {w : World} (h : PS w rb pb v ts s o st) :
    Calls Try.prog 57 #[.pointer (some ⟨pb, 0, none⟩)] w fun e w' => e = .returned (.string (tokOf (st.bind (tokS ts s 1))).2.1) ∧ PS w' rb pb v ts s o (st.bind (tokS ts s 1)).st ∧ Chg (Pw rb pb) w w' := by
  have TK := hide (token_any 1 (by decide) h)
  clear h
  generalize st.bind (tokS ts s 1) = r at *
  obtain ⟨t, ht⟩ : ∃ t, tokOf r = t := ⟨_, rfl⟩
  rw [ht] at TK ⊢
  clear ht
  obtain ⟨t0, t1, t2⟩ := t
  have etv : tokV (t0, t1, t2) = .agg #[.int .i64 t0, .string t1, .int .i64 (t2 : Int)] := rfl
  rw [etv] at TK
  have fl := field46_1 (.int .i64 t0) (.string t1) (.int .i64 (t2 : Int))
  clear etv
  go_enter Try.func57, Try.ntmps57
  go_wp2_with fail
  refine TK.out.mono ?_
  rintro e w2 ⟨rfl, h2, g2⟩
  have H2 := hide h2
  have G2 := hide g2
  clear h2 g2
  go_wp2_with fail
  go_ret
  exact ⟨rfl, H2.out, G2.out⟩
end Go.Proofs.Ytboeeaekhijboaa
