/- The program's parser: lam. -/
import Derived.Test.YtboeeaekhijboaaPpart
namespace Go.Proofs.Ytboeeaekhijboaa
open Go.RowKit
set_option linter.unusedVariables false
set_option linter.unusedSimpArgs false

theorem lam_law (ts : List Tok) (s : ByteArray) (typ term : Nat → Rz Nd) (at0 : Int) (st : St) (a b : Nd)
    (ha : ∀ q, (((st.bind (tokS ts s 1)).st.then (mustS ts s bColon)).bind typ) = .ok q → a = q.1)
    (hb : ∀ q, (((((st.bind (tokS ts s 1)).st.then (mustS ts s bColon)).bind typ).st.then (mustS ts s bDot)).bind term) = .ok q → b = q.1) :
    (((((st.bind (tokS ts s 1)).st.then (mustS ts s bColon)).bind typ).st.then (mustS ts s bDot)).bind term).st = (st.bind (lamS ts s typ term at0)).st ∧
      ∀ q, st.bind (lamS ts s typ term at0) = .ok q → ((3, (tokOf (st.bind (tokS ts s 1))).2.1, at0, twoN a b) : Nd) = q.1 := by
  cases st with
  | error x => exact ⟨rfl, fun q hq => by cases hq⟩
  | ok k =>
    simp only [St.bind, lamS] at ha hb ⊢
    cases e1 : tokS ts s 1 k with
    | error x => exact ⟨rfl, fun q hq => by cases hq⟩
    | ok q1 =>
      rw [e1] at ha hb
      simp only [Rz.bind, Rz.st, St.then, tokOf] at ha hb ⊢
      cases e2 : mustS ts s bColon q1.2 with
      | error x => exact ⟨rfl, fun q hq => by cases hq⟩
      | ok k2 =>
        rw [e2] at ha hb
        simp only [St.bind] at ha hb ⊢
        cases e3 : typ k2 with
        | error x => exact ⟨rfl, fun q hq => by cases hq⟩
        | ok q3 =>
          rw [e3] at ha hb
          have ea := ha q3 rfl
          simp only [Rz.bind, Rz.st, St.then] at hb ⊢
          cases e4 : mustS ts s bDot q3.2 with
          | error x => exact ⟨rfl, fun q hq => by cases hq⟩
          | ok k4 =>
            rw [e4] at hb
            simp only [St.bind] at hb ⊢
            cases e5 : term k4 with
            | error x => exact ⟨rfl, fun q hq => by cases hq⟩
            | ok q5 =>
              rw [e5] at hb
              have eb := hb q5 rfl
              exact ⟨rfl, fun q hq => by cases hq; rw [ea, eb]⟩

set_option maxRecDepth 100000 in
set_option maxHeartbeats 8000000 in
theorem lam_any {rb pb : Nat} {v : Value} {ts : List Tok} {s : ByteArray} {o : Nat} (typ term : Nat → Rz Nd)
    (hty : ∀ (st : St) (w : World), PS w rb pb v ts s o st → Calls Try.prog 43 #[.pointer (some ⟨pb, 0, none⟩)] w (POut w rb pb v ts s o (st.bind typ)))
    (hte : ∀ (st : St) (w : World), PS w rb pb v ts s o st → Calls Try.prog 40 #[.pointer (some ⟨pb, 0, none⟩)] w (POut w rb pb v ts s o (st.bind term)))
    (at0 : Int) {st : St} {w : World} (h : PS w rb pb v ts s o st) :
    Calls Try.prog 78 #[.pointer (some ⟨pb, 0, none⟩), .int .i64 at0] w (POut w rb pb v ts s o (st.bind (lamS ts s typ term at0))) := by
  have G0 := hide (al w (.cells #[.int .i64 0, .string ⟨#[]⟩, .int .i64 0, .slice none 0 0] 51))
  have B0 := hide (blk_new w (.cells #[.int .i64 0, .string ⟨#[]⟩, .int .i64 0, .slice none 0 0] 51))
  have H0 := hide (h.chg G0.out (fun _ _ h => h))
  have hl := h.lt
  have HTY := hide hty
  have HTE := hide hte
  have LAW := hide (fun a b ha hb => lam_law ts s typ term at0 st a b ha hb)
  obtain ⟨A, hA⟩ : ∃ A, w.heap.size = A := ⟨_, rfl⟩
  have HL : Hid (rb < pb ∧ pb < A ∧ w.heap.size = A) := hide ⟨hl.1, by omega, hA⟩
  have WD := hide (word_any H0.out)
  rw [hA] at B0
  clear h hl hA hty hte
  generalize st.bind (lamS ts s typ term at0) = R at *
  generalize st.bind (tokS ts s 1) = r1 at *
  obtain ⟨w1, hw1⟩ : ∃ w1, (tokOf r1).2.1 = w1 := ⟨_, rfl⟩
  rw [hw1] at WD LAW
  clear hw1
  go_enter Try.func78, Try.ntmps78
  go_wp2_with fail
  rw [HL.out.2.2]
  generalize w.alloc (.cells #[.int .i64 0, .string ⟨#[]⟩, .int .i64 0, .slice none 0 0] 51) = v1 at *
  refine WD.out.mono ?_
  rintro e v2 ⟨rfl, h2, g2⟩
  have GD := al v2 (.cells #[.int .i64 3, .string w1, .int .i64 at0, .slice none 0 0] 51)
  have D2 := hide (blk_new v2 (.cells #[.int .i64 3, .string w1, .int .i64 at0, .slice none 0 0] 51))
  have H2 := hide (h2.chg GD (fun _ _ h => h))
  have B2 := hide (GD.blk (g2.blkS (by have := HL.out; rintro (e | e) <;> omega) B0.out))
  have G2 := hide ((G0.out.none.trans g2).trans GD.none)
  obtain ⟨D, hD⟩ : ∃ D, v2.heap.size = D := ⟨_, rfl⟩
  have DL : Hid (A < D ∧ rb < pb ∧ pb < A ∧ w.heap.size = A) := hide ⟨by have h1 := olt (g2.blkS (by have := HL.out; rintro (e | e) <;> omega) B0.out); omega, HL.out⟩
  rw [hD] at D2
  clear h2 g2 GD WD
  have MC := hide (must_any bColon H2.out)
  generalize r1.st.then (mustS ts s bColon) = st2 at *
  go_wp2_with fail
  clear hD
  generalize v2.alloc (.cells #[.int .i64 3, .string w1, .int .i64 at0, .slice none 0 0] 51) = v3 at *
  refine MC.out.mono ?_
  rintro e v4 ⟨rfl, h4, g4⟩
  have H4 := hide h4
  have B4 := hide (g4.blkS (by have := HL.out; rintro (e | e) <;> omega) B2.out)
  have D4 := hide (g4.blkS (by have := DL.out; rintro (e | e) <;> omega) D2.out)
  have G4 := hide (G2.out.trans g4)
  clear h4 g4 MC
  have TY := hide (HTY.out st2 v4 H4.out)
  generalize st2.bind typ = r3 at *
  go_wp2_with fail
  refine TY.out.mono ?_
  rintro e v5 ⟨⟨u, a, rfl, ha, hqa⟩, h5, g5⟩
  obtain ⟨aa, ac, rfl, _⟩ := id ha
  obtain ⟨a0, a1, a2, a3⟩ := a
  dsimp only [Nd.kind, Nd.word, Nd.at, Nd.kids] at *
  have GE := al v5 (.cells #[.int .i64 a0, .string a1, .int .i64 a2, .slice aa a3.len ac] 51)
  have E5 := hide (blk_new v5 (.cells #[.int .i64 a0, .string a1, .int .i64 a2, .slice aa a3.len ac] 51))
  have H5 := hide (h5.chg GE (fun _ _ h => h))
  have B5 := hide (GE.blk (g5.blkS (by have := HL.out; rintro (e | e) <;> omega) B4.out))
  have D5 := hide (GE.blk (g5.blkS (by have := DL.out; rintro (e | e) <;> omega) D4.out))
  have G5 := hide ((G4.out.trans g5).trans GE.none)
  obtain ⟨E, hE⟩ : ∃ E, v5.heap.size = E := ⟨_, rfl⟩
  have EL : Hid (D < E) := hide (by have h1 := olt (g5.blkS (by have := DL.out; rintro (e | e) <;> omega) D4.out); omega)
  have SZ4 : Hid (D < v4.heap.size) := hide (olt D4.out)
  have NA := hide ((ha.chg GE (fun _ _ h => h)).up (Y := fun x => D < x ∧ x < E) (fun x hx => ⟨by have := SZ4.out; omega, by omega⟩))
  rw [hE] at E5
  clear h5 g5 GE TY ha
  have MD := hide (must_any bDot H5.out)
  have LAW2 := hide (fun b hb => LAW.out (a0, a1, a2, a3) b hqa hb)
  clear LAW hqa
  generalize r3.st.then (mustS ts s bDot) = st4 at *
  go_wp2_with fail
  clear hE
  generalize v5.alloc (.cells #[.int .i64 a0, .string a1, .int .i64 a2, .slice aa a3.len ac] 51) = v6 at *
  refine MD.out.mono ?_
  rintro e v7 ⟨rfl, h7, g7⟩
  have H7 := hide (h7.chg (Chg.refl (fun _ => False) v7).drew (fun _ _ h => h))
  have B7 := hide (g7.blkS (by have := HL.out; rintro (e | e) <;> omega) B5.out)
  have D7 := hide (g7.blkS (by have := DL.out; rintro (e | e) <;> omega) D5.out)
  have E7 := hide (g7.blkS (by have := DL.out; have := EL.out; rintro (e | e) <;> omega) E5.out)
  have G7 := hide ((G5.out.trans g7).drew)
  have NA7 := hide ((NA.out.chg g7 (fun x hx e => by have := hx.1; have := DL.out; rcases e with e | e <;> omega)).chg (Chg.refl (fun _ => False) v7).drew (fun _ _ h => h))
  clear h7 g7 MD NA
  have TE := hide (HTE.out st4 v7.drew H7.out)
  generalize st4.bind term = r5 at *
  have p0 := blk_cell E7.out 0
  have p1 := blk_cell E7.out 1
  have p2 := blk_cell E7.out 2
  have p3 := blk_cell E7.out 3
  simp only [List.getElem?_toArray, List.getElem?_cons_zero, List.getElem?_cons_succ] at p0 p1 p2 p3
  go_wp2_with fail
  refine wp_region_held_drew (S := (fun w' => w'.cell? ⟨E, 0, none⟩ = some (.int .i64 a0) ∧ w'.cell? ⟨E, 1, none⟩ = some (.string a1) ∧ w'.cell? ⟨E, 2, none⟩ = some (.int .i64 a2) ∧ w'.cell? ⟨E, 3, none⟩ = some (.slice aa a3.len ac))) (by kernel_rfl) (by go_keep) (fun hHeld => ?_)
  first
    | (refine wpAnyH_take (i := 0) (v := undef) rfl (by kernel_rfl) (by kernel_rfl) (by kernel_rfl) (fun _ _ _ h => h) (Or.inr ⟨by rfl, rfl⟩) (by assumption) ?_)
    | (refine wpAnyH_take (i := 0) (v := ?_) rfl (by kernel_rfl) (by kernel_rfl) (by kernel_rfl) (fun _ _ _ h => h) (Or.inl ⟨by rfl, ?_⟩) (by assumption) ?_
       rotate_left
       (intro w hSw
        (try dsimp only at hSw)
        (go_simp <;> with_reducible rfl)))
  try simp only [Act.put, List.getElem_toArray, List.getElem_cons_zero, List.getElem_cons_succ, List.setIfInBounds_toArray, List.set_cons_zero, List.set_cons_succ]
  first
    | (refine wpAnyH_take (i := 1) (v := undef) rfl (by kernel_rfl) (by kernel_rfl) (by kernel_rfl) (fun _ _ _ h => h) (Or.inr ⟨by rfl, rfl⟩) (by assumption) ?_)
    | (refine wpAnyH_take (i := 1) (v := ?_) rfl (by kernel_rfl) (by kernel_rfl) (by kernel_rfl) (fun _ _ _ h => h) (Or.inl ⟨by rfl, ?_⟩) (by assumption) ?_
       rotate_left
       (intro w hSw
        (try dsimp only at hSw)
        (go_simp <;> with_reducible rfl)))
  try simp only [Act.put, List.getElem_toArray, List.getElem_cons_zero, List.getElem_cons_succ, List.setIfInBounds_toArray, List.set_cons_zero, List.set_cons_succ]
  refine wpAnyH_ready (rs := [2]) (by kernel_rfl) (by simp) ?_
  refine AllReadyH.cons (i := 2) (o := _) rfl (fun K hK => ?_) ?_
  rotate_left
  · exact AllReadyH.nil
  go_simp
  refine TE.out.mono ?_
  rintro e v8 ⟨⟨u, m, rfl, hm, hqm⟩, h8, g8⟩
  obtain ⟨ma, mc, rfl, _⟩ := id hm
  have LW := hide (LAW2.out m hqm)
  clear LAW2 hqm
  obtain ⟨m0, m1, m2, m3⟩ := m
  dsimp only [Nd.kind, Nd.word, Nd.at, Nd.kids] at *
  have hv7 : v7.drew.heap.size = v7.heap.size := rfl
  have E8 := hide (g8.blkS (by have := DL.out; have := EL.out; rintro (e | e) <;> omega) E7.out)
  have GF := al v8 (.cells #[.int .i64 a0, .string a1, .int .i64 a2, .slice aa a3.len ac, .int .i64 m0, .string m1, .int .i64 m2, .slice ma m3.len mc] 51)
  have BF := hide (blk_new v8 (.cells #[.int .i64 a0, .string a1, .int .i64 a2, .slice aa a3.len ac, .int .i64 m0, .string m1, .int .i64 m2, .slice ma m3.len mc] 51))
  have H9 := hide (h8.chg GF (fun _ _ h => h))
  rw [LW.out.1] at H9
  have B9 := hide (GF.blk (g8.blkS (by have := HL.out; rintro (e | e) <;> omega) B7.out))
  have D9 := hide (GF.blk (g8.blkS (by have := DL.out; rintro (e | e) <;> omega) D7.out))
  have E9 := hide (GF.blk E8.out)
  have G9 := hide ((G7.out.trans g8).trans GF.none)
  have hE7 := olt E7.out
  have hE8 := olt E8.out
  have NA := ((NA7.out.chg g8 (fun x hx e => by have := hx.1; have := DL.out; rcases e with e | e <;> omega)).chg GF (fun _ _ h => h)).up (Y := fun x => D < x ∧ x < v8.heap.size + 1) (fun x hx => ⟨hx.1, by omega⟩)
  have NB := (hm.chg GF (fun _ _ h => h)).up (Y := fun x => D < x ∧ x < v8.heap.size + 1) (fun x hx => ⟨by have := EL.out; omega, by omega⟩)
  obtain ⟨_, _, ea, NA⟩ := NA
  obtain ⟨_, _, eb, NB⟩ := NB
  have N9 := hide (nv_two (X := fun x => D < x ∧ x < v8.heap.size + 1) (g := v8.heap.size) (n := (a0, a1, a2, a3)) (m := (m0, m1, m2, m3)) 3 at0 ⟨by have := EL.out; omega, by omega⟩ BF.out (by cases ea; exact NA) (by cases eb; exact NB))
  have y0 := blk_cell E8.out 0
  have y1 := blk_cell E8.out 1
  have y2 := blk_cell E8.out 2
  have y3 := blk_cell E8.out 3
  have z0 := blk_cell E9.out 0
  have z1 := blk_cell E9.out 1
  have z2 := blk_cell E9.out 2
  have z3 := blk_cell E9.out 3
  simp only [List.getElem?_toArray, List.getElem?_cons_zero, List.getElem?_cons_succ] at y0 y1 y2 y3 z0 z1 z2 z3
  clear h8 g8 GF hm NA NB ea eb hv7 hE7 hE8
  go_simp
  refine hK.out _ _ ⟨y0, y1, y2, y3⟩ (fun hHeld => ?_)
  clear hK K
  try simp only [Act.put, List.getElem_toArray, List.getElem_cons_zero, List.getElem_cons_succ, List.setIfInBounds_toArray, List.set_cons_zero, List.set_cons_succ]
  refine wpAnyH_ready (rs := [3]) (by kernel_rfl) (by simp) ?_
  refine AllReadyH.cons (i := 3) (o := _) rfl (fun K hK => ?_) ?_
  rotate_left
  · exact AllReadyH.nil
  go_simp
  refine hK.out _ _ ⟨z0, z1, z2, z3⟩ (fun hHeld => ?_)
  clear hK K
  try simp only [Act.put, List.getElem_toArray, List.getElem_cons_zero, List.getElem_cons_succ, List.setIfInBounds_toArray, List.set_cons_zero, List.set_cons_succ]
  clear y0 y1 y2 y3
  obtain ⟨F, hF⟩ : ∃ F, v8.heap.size = F := ⟨_, rfl⟩
  rw [hF] at N9 BF ⊢
  have SZ9 : Hid (F + 1 = (v8.alloc (.cells #[.int .i64 a0, .string a1, .int .i64 a2, .slice aa a3.len ac, .int .i64 m0, .string m1, .int .i64 m2, .slice ma m3.len mc] 51)).heap.size) := hide (by rw [al_sz]; omega)
  clear hF
  generalize v8.alloc (.cells #[.int .i64 a0, .string a1, .int .i64 a2, .slice aa a3.len ac, .int .i64 m0, .string m1, .int .i64 m2, .slice ma m3.len mc] 51) = v9 at *
  first
    | (refine wpAnyH_take (i := 4) (v := undef) rfl (by kernel_rfl) (by kernel_rfl) (by kernel_rfl) (fun _ _ _ h => h) (Or.inr ⟨by rfl, rfl⟩) (by assumption) ?_)
    | (refine wpAnyH_take (i := 4) (v := ?_) rfl (by kernel_rfl) (by kernel_rfl) (by kernel_rfl) (fun _ _ _ h => h) (Or.inl ⟨by rfl, ?_⟩) (by assumption) ?_
       rotate_left
       (intro w hSw
        (try dsimp only at hSw)
        (go_simp <;> with_reducible rfl)))
  try simp only [Act.put, List.getElem_toArray, List.getElem_cons_zero, List.getElem_cons_succ, List.setIfInBounds_toArray, List.set_cons_zero, List.set_cons_succ]
  refine wpAnyH_ready (rs := [5]) (by kernel_rfl) (by simp) ?_
  refine AllReadyH.cons (i := 5) (o := _) rfl (fun K hK => ?_) ?_
  rotate_left
  · exact AllReadyH.nil
  have d0 := blk_cell D9.out 3
  have d1 := blk_free D9.out 3
  have DS := hide (blk_set D9.out 3 (.slice (some ⟨F, 0, none⟩) 2 2))
  have GS := Chg.set v9 D 3 (.slice (some ⟨F, 0, none⟩) 2 2)
  have HS := hide (H9.out.chg GS (fun x hx e => by have h1 := DL.out; omega))
  have BS := hide (GS.blkS (by have := DL.out; omega) B9.out)
  have CS1 := hide (chg_fresh G9.out GS (by have h1 := DL.out; omega))
  have NS1 := hide (N9.out.chg GS (fun x hx e => by have := hx.1; omega))
  have SZ10 : Hid (F + 1 ≤ (v9.setCell ⟨D, 3, none⟩ (.slice (some ⟨F, 0, none⟩) 2 2)).heap.size) := hide (by have := SZ9.out; have := GS.size; omega)
  have v0 := GS.cell (by have := EL.out; omega) z0
  have v1 := GS.cell (by have := EL.out; omega) z1
  have v2 := GS.cell (by have := EL.out; omega) z2
  have v3 := GS.cell (by have := EL.out; omega) z3
  clear GS
  go_simp
  refine hK.out _ _ ⟨v0, v1, v2, v3⟩ (fun hHeld => ?_)
  clear hK K
  try simp only [Act.put, List.getElem_toArray, List.getElem_cons_zero, List.getElem_cons_succ, List.setIfInBounds_toArray, List.set_cons_zero, List.set_cons_succ]
  refine wpAnyH_done (by kernel_rfl) ?_ _
  have q0 := blk_cell DS.out 0
  have q1 := blk_cell DS.out 1
  have q2 := blk_cell DS.out 2
  have q3 := blk_cell DS.out 3
  simp only [List.getElem?_toArray, List.getElem?_cons_zero, List.getElem?_cons_succ, List.setIfInBounds_toArray, List.set_cons_zero, List.set_cons_succ] at q0 q1 q2 q3
  have b0 := blk_cell BS.out 0
  have b1 := blk_cell BS.out 1
  have b2 := blk_cell BS.out 2
  have b3 := blk_cell BS.out 3
  have f0 := blk_free BS.out 0
  have f1 := blk_free BS.out 1
  have f2 := blk_free BS.out 2
  have f3 := blk_free BS.out 3
  have NS := hide (nv_set BS.out (.int .i64 3) (.string w1) (.int .i64 at0) (.slice (some ⟨F, 0, none⟩) 2 2))
  have FS := hide (HS.out.chg NS.out.2 (fun x hx e => by have h1 := HL.out; omega))
  have CS := hide (chg_fresh CS1.out NS.out.2 (by have h1 := HL.out; omega))
  go_wp2_with fail
  generalize (((((v9.setCell ⟨D, 3, none⟩ (.slice (some ⟨F, 0, none⟩) 2 2)).setCell ⟨A, 0, none⟩ (.int .i64 3)).setCell ⟨A, 1, none⟩ (.string w1)).setCell ⟨A, 2, none⟩ (.int .i64 at0)).setCell ⟨A, 3, none⟩ (.slice (some ⟨F, 0, none⟩) 2 2)) = wF at *
  have r0 := blk_cell NS.out.1 0
  have r1 := blk_cell NS.out.1 1
  have r2 := blk_cell NS.out.1 2
  have r3 := blk_cell NS.out.1 3
  refine bodyPost_ret (v := .agg #[.int .i64 3, .string w1, .int .i64 at0, .slice (some ⟨F, 0, none⟩) 2 2]) (by simp [results, Try.results78, go_sem, r0, r1, r2, r3]) rfl ?_
  have N7 := NS1.out.chg NS.out.2 (fun x hx e => by have := hx.1; have := DL.out; omega)
  obtain ⟨ka, kc, ek, N7⟩ := N7
  have N8 : NV wF (fun x => w.heap.size ≤ x ∧ x < wF.heap.size) (.agg #[.int .i64 3, .string w1, .int .i64 at0, .slice (some ⟨F, 0, none⟩) 2 2]) (3, w1, at0, twoN (a0, a1, a2, a3) (m0, m1, m2, m3)) := ⟨_, 2, rfl, (show Ts wF _ (.slice (some ⟨F, 0, none⟩) 2 2) (twoN (a0, a1, a2, a3) (m0, m1, m2, m3)) by cases ek; exact N7).up (fun x hx => ⟨by have := DL.out; omega, by have h1 := NS.out.2.size; have h2 := SZ10.out; omega⟩)⟩
  exact ⟨⟨_, _, rfl, N8, LW.out.2⟩, FS.out, CS.out⟩
end Go.Proofs.Ytboeeaekhijboaa
