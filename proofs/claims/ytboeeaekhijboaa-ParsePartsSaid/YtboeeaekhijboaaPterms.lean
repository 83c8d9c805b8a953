/- The program's parser: terms, begins. -/
import Derived.Test.YtboeeaekhijboaaPchain
namespace Go.Proofs.Ytboeeaekhijboaa
open Go.RowKit
set_option linter.unusedVariables false
set_option linter.unusedSimpArgs false

/-- a row of nodes was read, or a fault lies there -/
def TOut (w : World) (rb pb : Nat) (v : Value) (ts : List Tok) (s : ByteArray) (o : Nat) (r : Rz Ns) (e : Ending) (w' : World) : Prop :=
  (∃ u l, e = .returned u ∧ Ts w' (fun x => w.heap.size ≤ x ∧ x < w'.heap.size) u l ∧ ∀ q, r = .ok q → l = q.1) ∧ PS w' rb pb v ts s o r.st ∧ Chg (Pw rb pb) w w'
theorem terms_law (ts : List Tok) (s : ByteArray) (sg : ByteArray) (st : St) (a b : Nd)
    (ha : ∀ q, st.bind (termS ts s 60) = .ok q → a = q.1) (hb : ∀ q, (((st.bind (termS ts s 60)).st.then (mustS ts s sg)).bind (termS ts s 60)) = .ok q → b = q.1) :
    (((st.bind (termS ts s 60)).st.then (mustS ts s sg)).bind (termS ts s 60)).st = (st.bind (termsS ts s sg)).st ∧ ∀ q, st.bind (termsS ts s sg) = .ok q → twoN a b = q.1 := by
  cases st with
  | error x => exact ⟨rfl, fun q hq => by cases hq⟩
  | ok k =>
    simp only [St.bind, termsS] at ha hb ⊢
    generalize termS ts s 60 = f at *
    cases e1 : f k with
    | error x => exact ⟨rfl, fun q hq => by cases hq⟩
    | ok q1 =>
      rw [e1] at ha hb
      have ea := ha q1 rfl
      simp only [Rz.bind, Rz.st, St.then] at hb ⊢
      cases e2 : mustS ts s sg q1.2 with
      | error x => exact ⟨rfl, fun q hq => by cases hq⟩
      | ok k2 =>
        rw [e2] at hb
        simp only [St.bind] at hb ⊢
        cases e3 : f k2 with
        | error x => exact ⟨rfl, fun q hq => by cases hq⟩
        | ok q3 =>
          rw [e3] at hb
          have eb := hb q3 rfl
          exact ⟨rfl, fun q hq => by cases hq; rw [ea, eb]⟩

set_option maxRecDepth 100000 in
set_option maxHeartbeats 8000000 in
theorem terms_any {rb pb : Nat} {v : Value} {ts : List Tok} {s : ByteArray} {st : St} (sg : ByteArray) {w : World} (h : PS w rb pb v ts s 0 st) :
    Calls Try.prog 55 #[.pointer (some ⟨pb, 0, none⟩), .string sg] w (TOut w rb pb v ts s 0 (st.bind (termsS ts s sg))) := by
  have TE := hide (fun st w h => term_any (rb := rb) (pb := pb) (v := v) (ts := ts) (s := s) 60 0 rfl st w h)
  have HP := hide h
  have HL := hide h.lt
  have LAW := hide (fun a b ha hb => terms_law ts s sg st a b ha hb)
  have T1 := hide (TE.out st w h)
  clear h
  generalize st.bind (termsS ts s sg) = R at *
  generalize termS ts s 60 = f at *
  generalize st.bind f = r1 at *
  go_enter Try.func55, Try.ntmps55
  go_wp2_with fail
  refine T1.out.mono ?_
  rintro e v5 ⟨⟨u, a, rfl, ha, hqa⟩, h5, g5⟩
  obtain ⟨aa, ac, rfl, _⟩ := id ha
  obtain ⟨a0, a1, a2, a3⟩ := a
  dsimp only [Nd.kind, Nd.word, Nd.at, Nd.kids] at *
  have GE := al v5 (.cells #[.int .i64 a0, .string a1, .int .i64 a2, .slice aa a3.len ac] 51)
  have E5 := hide (blk_new v5 (.cells #[.int .i64 a0, .string a1, .int .i64 a2, .slice aa a3.len ac] 51))
  have H5 := hide (h5.chg GE (fun _ _ h => h))
  have G5 := hide (g5.trans GE.none)
  obtain ⟨E, hE⟩ : ∃ E, v5.heap.size = E := ⟨_, rfl⟩
  have EL : Hid (rb < pb ∧ pb < w.heap.size ∧ w.heap.size ≤ E) := hide ⟨HL.out.1, HL.out.2, by have := g5.size; omega⟩
  have NA := hide ((ha.chg GE (fun _ _ h => h)).up (Y := fun x => w.heap.size ≤ x ∧ x < E) (fun x hx => ⟨hx.1, by omega⟩))
  rw [hE] at E5
  clear h5 g5 GE T1 ha
  have MD := hide (must_any sg H5.out)
  have LAW2 := hide (fun b hb => LAW.out (a0, a1, a2, a3) b hqa hb)
  clear LAW hqa
  generalize r1.st.then (mustS ts s sg) = st4 at *
  go_wp2_with fail
  clear hE
  generalize v5.alloc (.cells #[.int .i64 a0, .string a1, .int .i64 a2, .slice aa a3.len ac] 51) = v6 at *
  refine MD.out.mono ?_
  rintro e v7 ⟨rfl, h7, g7⟩
  have H7 := hide (h7.chg (Chg.refl (fun _ => False) v7).drew (fun _ _ h => h))
  have E7 := hide (g7.blkS (by have := EL.out; rintro (e | e) <;> omega) E5.out)
  have G7 := hide ((G5.out.trans g7).drew)
  have NA7 := hide ((NA.out.chg g7 (fun x hx e => by have := hx.1; have := EL.out; rcases e with e | e <;> omega)).chg (Chg.refl (fun _ => False) v7).drew (fun _ _ h => h))
  clear h7 g7 MD NA
  have T2 := hide (TE.out st4 v7.drew H7.out)
  generalize st4.bind f = r5 at *
  have p0 := blk_cell E7.out 0
  have p1 := blk_cell E7.out 1
  have p2 := blk_cell E7.out 2
  have p3 := blk_cell E7.out 3
  simp only [List.getElem?_toArray, List.getElem?_cons_zero, List.getElem?_cons_succ] at p0 p1 p2 p3
  go_wp2_with fail
  refine wp_region_held_drew (S := (fun w' => w'.cell? ⟨E, 0, none⟩ = some (.int .i64 a0) ∧ w'.cell? ⟨E, 1, none⟩ = some (.string a1) ∧ w'.cell? ⟨E, 2, none⟩ = some (.int .i64 a2) ∧ w'.cell? ⟨E, 3, none⟩ = some (.slice aa a3.len ac))) (by kernel_rfl) (by go_keep) (fun hHeld => ?_)
  first
    | (refine wpAnyH_take (i := 0) (v := undef) rfl (by kernel_rfl) (by kernel_rfl) (by kernel_rfl) (fun _ _ _ h => h) (Or.inr ⟨by rfl, rfl⟩) (by assumption) ?_)
    | (refine wpAnyH_take (i := 0) (v := ?_) rfl (by kernel_rfl) (by kernel_rfl) (by kernel_rfl) (fun _ _ _ h => h) (Or.inl ⟨by rfl, ?_⟩) (by assumption) ?_
       rotate_left
       (intro w hSw
        (try dsimp only at hSw)
        (go_simp <;> with_reducible rfl)))
  try simp only [Act.put, List.getElem_toArray, List.getElem_cons_zero, List.getElem_cons_succ, List.setIfInBounds_toArray, List.set_cons_zero, List.set_cons_succ]
  first
    | (refine wpAnyH_take (i := 1) (v := undef) rfl (by kernel_rfl) (by kernel_rfl) (by kernel_rfl) (fun _ _ _ h => h) (Or.inr ⟨by rfl, rfl⟩) (by assumption) ?_)
    | (refine wpAnyH_take (i := 1) (v := ?_) rfl (by kernel_rfl) (by kernel_rfl) (by kernel_rfl) (fun _ _ _ h => h) (Or.inl ⟨by rfl, ?_⟩) (by assumption) ?_
       rotate_left
       (intro w hSw
        (try dsimp only at hSw)
        (go_simp <;> with_reducible rfl)))
  try simp only [Act.put, List.getElem_toArray, List.getElem_cons_zero, List.getElem_cons_succ, List.setIfInBounds_toArray, List.set_cons_zero, List.set_cons_succ]
  refine wpAnyH_ready (rs := [2]) (by kernel_rfl) (by simp) ?_
  refine AllReadyH.cons (i := 2) (o := _) rfl (fun K hK => ?_) ?_
  rotate_left
  · exact AllReadyH.nil
  go_simp
  refine T2.out.mono ?_
  rintro e v8 ⟨⟨u, m, rfl, hm, hqm⟩, h8, g8⟩
  obtain ⟨ma, mc, rfl, _⟩ := id hm
  have LW := hide (LAW2.out m hqm)
  clear LAW2 hqm
  obtain ⟨m0, m1, m2, m3⟩ := m
  dsimp only [Nd.kind, Nd.word, Nd.at, Nd.kids] at *
  have hv7 : v7.drew.heap.size = v7.heap.size := rfl
  have E8 := hide (g8.blkS (by have := EL.out; rintro (e | e) <;> omega) E7.out)
  have GF := al v8 (.cells #[.int .i64 a0, .string a1, .int .i64 a2, .slice aa a3.len ac, .int .i64 m0, .string m1, .int .i64 m2, .slice ma m3.len mc] 51)
  have BF := hide (blk_new v8 (.cells #[.int .i64 a0, .string a1, .int .i64 a2, .slice aa a3.len ac, .int .i64 m0, .string m1, .int .i64 m2, .slice ma m3.len mc] 51))
  have H9 := hide (h8.chg GF (fun _ _ h => h))
  rw [LW.out.1] at H9
  have E9 := hide (GF.blk E8.out)
  have G9 := hide ((G7.out.trans g8).trans GF.none)
  have hE7 := olt E7.out
  have hE8 := olt E8.out
  have NA := ((NA7.out.chg g8 (fun x hx e => by have := hx.1; have := EL.out; rcases e with e | e <;> omega)).chg GF (fun _ _ h => h)).up (Y := fun x => w.heap.size ≤ x ∧ x < (v8.alloc (.cells #[.int .i64 a0, .string a1, .int .i64 a2, .slice aa a3.len ac, .int .i64 m0, .string m1, .int .i64 m2, .slice ma m3.len mc] 51)).heap.size) (fun x hx => ⟨hx.1, by simp only [al_sz]; omega⟩)
  have NB := (hm.chg GF (fun _ _ h => h)).up (Y := fun x => w.heap.size ≤ x ∧ x < (v8.alloc (.cells #[.int .i64 a0, .string a1, .int .i64 a2, .slice aa a3.len ac, .int .i64 m0, .string m1, .int .i64 m2, .slice ma m3.len mc] 51)).heap.size) (fun x hx => ⟨by have := EL.out; omega, by simp only [al_sz]; omega⟩)
  obtain ⟨_, _, ea, NA⟩ := NA
  obtain ⟨_, _, eb, NB⟩ := NB
  have N9 := hide (ts_two (X := fun x => w.heap.size ≤ x ∧ x < (v8.alloc (.cells #[.int .i64 a0, .string a1, .int .i64 a2, .slice aa a3.len ac, .int .i64 m0, .string m1, .int .i64 m2, .slice ma m3.len mc] 51)).heap.size) (g := v8.heap.size) (n := (a0, a1, a2, a3)) (m := (m0, m1, m2, m3)) ⟨by have := EL.out; omega, by simp only [al_sz]; omega⟩ BF.out (by cases ea; exact NA) (by cases eb; exact NB))
  have y0 := blk_cell E8.out 0
  have y1 := blk_cell E8.out 1
  have y2 := blk_cell E8.out 2
  have y3 := blk_cell E8.out 3
  have z0 := blk_cell E9.out 0
  have z1 := blk_cell E9.out 1
  have z2 := blk_cell E9.out 2
  have z3 := blk_cell E9.out 3
  simp only [List.getElem?_toArray, List.getElem?_cons_zero, List.getElem?_cons_succ] at y0 y1 y2 y3 z0 z1 z2 z3
  clear h8 g8 GF hm NA NB ea eb hv7 hE7 hE8
  go_simp
  refine hK.out _ _ ⟨y0, y1, y2, y3⟩ (fun hHeld => ?_)
  clear hK K
  try simp only [Act.put, List.getElem_toArray, List.getElem_cons_zero, List.getElem_cons_succ, List.setIfInBounds_toArray, List.set_cons_zero, List.set_cons_succ]
  refine wpAnyH_ready (rs := [3]) (by kernel_rfl) (by simp) ?_
  refine AllReadyH.cons (i := 3) (o := _) rfl (fun K hK => ?_) ?_
  rotate_left
  · exact AllReadyH.nil
  go_simp
  refine hK.out _ _ ⟨z0, z1, z2, z3⟩ (fun hHeld => ?_)
  clear hK K
  try simp only [Act.put, List.getElem_toArray, List.getElem_cons_zero, List.getElem_cons_succ, List.setIfInBounds_toArray, List.set_cons_zero, List.set_cons_succ]
  first
    | (refine wpAnyH_take (i := 4) (v := undef) rfl (by kernel_rfl) (by kernel_rfl) (by kernel_rfl) (fun _ _ _ h => h) (Or.inr ⟨by rfl, rfl⟩) (by assumption) ?_)
    | (refine wpAnyH_take (i := 4) (v := ?_) rfl (by kernel_rfl) (by kernel_rfl) (by kernel_rfl) (fun _ _ _ h => h) (Or.inl ⟨by rfl, ?_⟩) (by assumption) ?_
       rotate_left
       (intro w hSw
        (try dsimp only at hSw)
        (go_simp <;> with_reducible rfl)))
  try simp only [Act.put, List.getElem_toArray, List.getElem_cons_zero, List.getElem_cons_succ, List.setIfInBounds_toArray, List.set_cons_zero, List.set_cons_succ]
  refine wpAnyH_done (by kernel_rfl) ?_ _
  go_wp2_with fail
  go_ret
  exact ⟨⟨_, _, rfl, N9.out, LW.out.2⟩, H9.out, G9.out⟩

theorem idxFrom_bd (x : ByteArray) : ∀ (zs : List ByteArray) (i : Nat), Lib.idxFromS zs x i = -1 ∨ ((i : Int) ≤ Lib.idxFromS zs x i ∧ Lib.idxFromS zs x i < (i + zs.length : Nat))
  | [], i => Or.inl rfl
  | z :: zs, i => by
    have ih := idxFrom_bd x zs (i + 1)
    unfold Lib.idxFromS
    split
    · exact Or.inr ⟨Int.le_refl _, by simp only [List.length_cons]; omega⟩
    · rcases ih with h | ⟨h1, h2⟩
      · exact Or.inl h
      · exact Or.inr ⟨by omega, by simp only [List.length_cons]; omega⟩
theorem idx_bd (zs : List ByteArray) (x : ByteArray) : -1 ≤ Lib.idxOfS zs x ∧ Lib.idxOfS zs x < zs.length := by
  unfold Lib.idxOfS
  rcases idxFrom_bd x zs 0 with h | ⟨h1, h2⟩
  · rw [h]; exact ⟨Int.le_refl _, by omega⟩
  · exact ⟨by omega, by omega⟩
theorem begins_kind (x : ByteArray) : Lib.idxOfS kinds x + 1 = kindOf x := rfl
set_option maxRecDepth 100000 in
theorem begins_any (x : ByteArray) (w : World) : Calls Try.prog 51 #[.string x] w fun e w' => e = .returned (.int .i64 (kindOf x)) ∧ Chg (fun _ => False) w w' := by
  have B := blk_new w (.cells (kinds.map Value.string).toArray 9)
  have IX := hide (Try.slices_Index_string w.heap.size 0 12 12 kinds x (w.alloc (.cells (kinds.map Value.string).toArray 9)) (by decide) (by decide) (fun j hj => by
    have h : j < 12 := hj
    have e := blk_cell B j
    rw [Nat.zero_add, e]
    simp [List.getD, show j < kinds.length from hj]))
  have hk : kinds.take 12 = kinds := rfl
  rw [hk] at IX
  have hb1 : -1 ≤ Lib.idxOfS kinds x := (idx_bd kinds x).1
  have hb2 : Lib.idxOfS kinds x < 12 := (idx_bd kinds x).2
  have HR : Hid (kindOf x = Lib.idxOfS kinds x + 1) := rfl
  clear hk B
  generalize Lib.idxOfS kinds x = i at *
  have G := hide (al w (.cells (kinds.map Value.string).toArray 9))
  simp only [kinds, List.map_cons, List.map_nil] at IX G
  go_enter Try.func51, Try.ntmps51
  go_wp2_with fail
  refine IX.out.mono ?_
  rintro e w2 ⟨rfl, rfl⟩
  go_wp2_with fail
  go_ret
  exact ⟨by rw [HR.out]; rfl, G.out⟩
end Go.Proofs.Ytboeeaekhijboaa
