/- term.headType: what type a head has. -/
import Derived.Test.YtnpcapdlgcaniaaDoorArrow
import Derived.Test.YtnpcapdlgcaniaaDoorTurned
namespace Go.Proofs.YtnpcapdlgcaniaaDoor
open Go.RowKit
set_option linter.unusedVariables false
set_option linter.unusedSimpArgs false

/-- the type at a place of a row -/
def Fs.at (f : Fs) (i : Int) : Option (Fs × Int) := if 0 ≤ i then f.toL[i.toNat]? else none
/-- a head's type -/
def headG (cs ms ctx : Fs) (k i : Int) : Option (Fs × Int) :=
  if k = 1 then cs.at i else if k = 2 then ms.at i else if k = 0 then (if i < 0 then none else ctx.at ((ctx.len : Int) - 1 - i)) else none
/-- the value is the type p -/
def TyV (w : World) (X : Nat → Prop) (v : Value) (p : Fs × Int) : Prop := ∃ a c, v = .agg #[.slice a p.1.len c, .int .i64 p.2] ∧ Ts w X (.slice a p.1.len c) p.1
theorem TyV.chg {w w' : World} {X : Nat → Prop} {v : Value} {p : Fs × Int} (h : TyV w X v p) {S : Nat → Prop} (g : Chg S w w') (hn : ∀ x, X x → ¬ S x) : TyV w' X v p := by
  obtain ⟨a, c, e, h1⟩ := h
  exact ⟨a, c, e, h1.chg g hn⟩
theorem TyV.up {w : World} {X Y : Nat → Prop} {v : Value} {p : Fs × Int} (h : TyV w X v p) (hb : ∀ x, X x → Y x) : TyV w Y v p := by
  obtain ⟨a, c, e, h1⟩ := h
  exact ⟨a, c, e, h1.up hb⟩
theorem TyV.zero (w : World) (X : Nat → Prop) : TyV w X (.agg #[.slice none 0 0, .int .i64 0]) (.nil, 0) := ⟨none, 0, rfl, Ts.nil _ _⟩
theorem Fs.at_some {f : Fs} {i : Int} {p : Fs × Int} (h : f.at i = some p) : 0 ≤ i ∧ i < f.len ∧ ∃ h : i.toNat < f.toL.length, f.toL[i.toNat] = p := by
  unfold Fs.at at h
  split at h
  · rename_i h0
    obtain ⟨h1, h2⟩ := List.getElem?_eq_some_iff.1 h
    have := Fs.toL_len f
    exact ⟨h0, by omega, h1, h2⟩
  · cases h
theorem Fs.at_none {f : Fs} {i : Int} (h : f.at i = none) : i < 0 ∨ (f.len : Int) ≤ i := by
  unfold Fs.at at h
  split at h
  · rename_i h0
    have h1 := List.getElem?_eq_none_iff.1 h
    have := Fs.toL_len f
    omega
  · rename_i h0
    omega
theorem Fs.at_size {f : Fs} {i : Int} {p : Fs × Int} (h : f.at i = some p) : p.1.size < f.size := by
  obtain ⟨_, _, h1, h2⟩ := Fs.at_some h
  have := Fs.kid_size f i.toNat h1
  rw [h2] at this
  exact this
/-- the world's value -/
abbrev wldV (n : Int) (ca : Option Addr) (cl cc : Nat) (ma : Option Addr) (ml mc : Nat) : Value := .agg #[.int .i64 n, .slice ca cl cc, .slice ma ml mc]

set_option maxRecDepth 100000 in
set_option maxHeartbeats 8000000 in
theorem head_any (n : Int) (cs ms ctx : Fs) (k i : Int) (hi : In64' i) (hcs : cs.len ≤ 1000000) (hms : ms.len ≤ 1000000) (hcx : ctx.len ≤ 1000000) (ca : Option Addr) (cc : Nat) (ma : Option Addr) (mc : Nat) (vx : Value) (X : Nat → Prop) (w : World) (hX : ∀ x, X x → x < w.heap.size)
    (h1 : Ts w X (.slice ca cs.len cc) cs) (h2 : Ts w X (.slice ma ms.len mc) ms) (h3 : Ts w X vx ctx) :
    Calls Tryd.prog 55 #[wldV n ca cs.len cc ma ms.len mc, vx, .agg #[.int .i64 k, .int .i64 i]] w fun e w' =>
      (∃ v, e = .returned (.tuple #[v, .bool (headG cs ms ctx k i).isSome]) ∧ TyV w' X v ((headG cs ms ctx k i).getD (.nil, 0))) ∧ Chg (fun _ => False) w w' := by
  obtain ⟨xa, xc, rfl, _⟩ := id h3
  obtain ⟨R, hR⟩ : ∃ R, headG cs ms ctx k i = R := ⟨_, rfl⟩
  rw [hR]
  have W1 := al w (.cells #[.int .i64 n, .slice ca cs.len cc, .slice ma ms.len mc] 66)
  have B1 := blk_new w (.cells #[.int .i64 n, .slice ca cs.len cc, .slice ma ms.len mc] 66)
  have W2 := al (w.alloc (.cells #[.int .i64 n, .slice ca cs.len cc, .slice ma ms.len mc] 66)) (.cells #[.int .i64 k, .int .i64 i] 32)
  have B2 := blk_new (w.alloc (.cells #[.int .i64 n, .slice ca cs.len cc, .slice ma ms.len mc] 66)) (.cells #[.int .i64 k, .int .i64 i] 32)
  have W3 := al ((w.alloc (.cells #[.int .i64 n, .slice ca cs.len cc, .slice ma ms.len mc] 66)).alloc (.cells #[.int .i64 k, .int .i64 i] 32)) (.cells #[.slice none 0 0, .int .i64 0] 73)
  have B3 := blk_new ((w.alloc (.cells #[.int .i64 n, .slice ca cs.len cc, .slice ma ms.len mc] 66)).alloc (.cells #[.int .i64 k, .int .i64 i] 32)) (.cells #[.slice none 0 0, .int .i64 0] 73)
  rw [al_sz] at B2
  rw [al_sz, al_sz] at B3
  have GG := hide ((W1.trans W2).trans W3)
  have b1 := hide (W3.blk (fun h => h) (W2.blk (fun h => h) B1))
  have b2 := hide (W3.blk (fun h => h) B2)
  have b3 := hide B3
  have H1 := hide (h1.chg GG.out (fun _ _ h => h))
  have H2 := hide (h2.chg GG.out (fun _ _ h => h))
  have H3 := hide (h3.chg GG.out (fun _ _ h => h))
  have HX := hide hX
  have HR := hide hR
  clear W1 W2 W3 B1 B2 B3 h1 h2 h3 hX hR
  have hi1 := hi.1
  have hi2 := hi.2
  clear hi
  obtain ⟨P, hP⟩ : ∃ P, w.heap.size = P := ⟨_, rfl⟩
  have HP := hide hP
  rw [hP] at b1 b2 b3
  have c1 := blk_cell b1.out 1
  have c2 := blk_cell b1.out 2
  have d0 := blk_cell b2.out 0
  have d1 := blk_cell b2.out 1
  simp only [List.getElem?_toArray, List.getElem?_cons_zero, List.getElem?_cons_succ] at c1 c2 d0 d1
  have ZT := TyV.zero w X
  go_enter Tryd.func55, Tryd.ntmps55
  go_upto_region 1 with fail
  try rw [hP]
  clear hP
  generalize ((w.alloc (.cells #[.int .i64 n, .slice ca cs.len cc, .slice ma ms.len mc] 66)).alloc (.cells #[.int .i64 k, .int .i64 i] 32)).alloc (.cells #[.slice none 0 0, .int .i64 0] 73) = w1 at *
  by_cases k1 : k = 1
  · subst k1
    have HH := hide (show headG cs ms ctx 1 i = cs.at i by simp [headG])
    cases hq : cs.at (i) with
    | none =>
      have hq2 := Fs.at_none hq
      obtain rfl : R = none := by rw [← HR.out]; unfold headG; rw [if_pos rfl]; exact hq
      clear hq
      rcases hq2 with hq2 | hq2
      · go_upto_region 6 with fail
        go_quiet (first | fail)
        have GGq : Hid (Chg (fun _ => False) w (w1.drewN nq)) := hide (GG.out.drewN nq)
        have b3q : Hid ((w1.drewN nq).heap[P + 1 + 1]? = some (.cells #[.slice none 0 0, .int .i64 0] 73)) := b3
        generalize w1.drewN nq = wq at *
        have S0 := blk_set b3q.out 0 (.slice none 0 0)
        have S1 := blk_set S0 1 (.int .i64 0)
        simp only [List.setIfInBounds_toArray, List.set_cons_zero, List.set_cons_succ] at S1
        have SS := hide S1
        have CC := hide (((Chg.refl (fun x => x = P + 1 + 1) wq).setCell (p := ⟨P + 1 + 1, 0, none⟩) (Or.inl rfl) (.slice none 0 0)).setCell (p := ⟨P + 1 + 1, 1, none⟩) (Or.inl rfl) (.int .i64 0))
        have r0 := blk_cell b3q.out 0
        have r1 := blk_cell b3q.out 1
        have e0 := blk_free b3q.out 0
        have e1 := blk_free b3q.out 1
        clear S0 S1
        go_wp2_with fail
        clear c1 c2
        have u0 := blk_cell SS.out 0
        have u1 := blk_cell SS.out 1
        simp only [List.getElem?_toArray, List.getElem?_cons_zero, List.getElem?_cons_succ] at u0 u1
        refine bodyPost_ret (v := .tuple #[.agg #[.slice none 0 0, .int .i64 0], .bool false]) (by simp [results, Tryd.results55, go_sem, u0, u1]) rfl ?_
        exact ⟨⟨_, rfl, TyV.zero _ _⟩, (GGq.out.none.trans (CC.out.mono (T := fun x => P ≤ x) (fun x _ e => by omega))).mono (fun x hx e => by have := HP.out; omega)⟩ 
      · go_upto_region 6 with fail
        go_quiet (first | fail)
        have GGq : Hid (Chg (fun _ => False) w (w1.drewN nq)) := hide (GG.out.drewN nq)
        have b3q : Hid ((w1.drewN nq).heap[P + 1 + 1]? = some (.cells #[.slice none 0 0, .int .i64 0] 73)) := b3
        generalize w1.drewN nq = wq at *
        have S0 := blk_set b3q.out 0 (.slice none 0 0)
        have S1 := blk_set S0 1 (.int .i64 0)
        simp only [List.setIfInBounds_toArray, List.set_cons_zero, List.set_cons_succ] at S1
        have SS := hide S1
        have CC := hide (((Chg.refl (fun x => x = P + 1 + 1) wq).setCell (p := ⟨P + 1 + 1, 0, none⟩) (Or.inl rfl) (.slice none 0 0)).setCell (p := ⟨P + 1 + 1, 1, none⟩) (Or.inl rfl) (.int .i64 0))
        have r0 := blk_cell b3q.out 0
        have r1 := blk_cell b3q.out 1
        have e0 := blk_free b3q.out 0
        have e1 := blk_free b3q.out 1
        clear S0 S1
        go_wp2_with fail
        clear c1 c2
        have u0 := blk_cell SS.out 0
        have u1 := blk_cell SS.out 1
        simp only [List.getElem?_toArray, List.getElem?_cons_zero, List.getElem?_cons_succ] at u0 u1
        refine bodyPost_ret (v := .tuple #[.agg #[.slice none 0 0, .int .i64 0], .bool false]) (by simp [results, Tryd.results55, go_sem, u0, u1]) rfl ?_
        exact ⟨⟨_, rfl, TyV.zero _ _⟩, (GGq.out.none.trans (CC.out.mono (T := fun x => P ≤ x) (fun x _ e => by omega))).mono (fun x hx e => by have := HP.out; omega)⟩ 
    | some p =>
      obtain ⟨q1, q2, q3, q4⟩ := Fs.at_some hq
      obtain rfl : R = some p := by rw [← HR.out]; unfold headG; rw [if_pos rfl]; exact hq
      obtain ⟨m, hm⟩ : ∃ m : Nat, i = (m : Int) := ⟨(i).toNat, by omega⟩
      subst hm
      have hmt : m < cs.toL.length := by have := Fs.toL_len cs; omega
      have q5 : cs.toL[m] = p := by first | (rw [← q4]; congr 1; done) | (rw [← q4]; congr 1; omega)
      obtain ⟨la, lc, hlv, hl⟩ := H1.out
      rcases hl with hz | ⟨g, off, rfl, hg, hl⟩
      · rw [hz] at hmt; exact absurd hmt (Nat.not_lt_zero _)
      injection hlv with e2 e3 e4
      subst e2
      clear e3 e4
      obtain ⟨⟨v0, z0, ts⟩, z1⟩ := lies_get hl m hmt
      obtain ⟨a0, c0, rfl, _⟩ := id ts
      rw [q5] at z0 z1 ts
      obtain ⟨p1, p2⟩ := p
      dsimp only at z0 z1 ts
      have i1 : (0 : Int) ≤ (m : Int) := by omega
      have i2 : (m : Int) < (cs.len : Int) := by omega
      have TS := hide ts
      clear hl hg ts q4 q5 hq
      go_upto_region 6 with fail
      go_quiet (first | fail)
      have GGq : Hid (Chg (fun _ => False) w (w1.drewN nq)) := hide (GG.out.drewN nq)
      have b3q : Hid ((w1.drewN nq).heap[P + 1 + 1]? = some (.cells #[.slice none 0 0, .int .i64 0] 73)) := b3
      replace z0 : (w1.drewN nq).cell? ⟨g, off + m * 2, none⟩ = some (.slice a0 p1.len c0) := z0
      replace z1 : (w1.drewN nq).cell? ⟨g, off + m * 2 + 1, none⟩ = some (.int .i64 p2) := z1
      replace TS : Hid (Ts (w1.drewN nq) X (.slice a0 p1.len c0) p1) := hide (TS.out.chg ((Chg.refl (fun _ => False) w1).drewN nq) (fun _ _ h => h))
      generalize w1.drewN nq = wq at *
      have S0 := blk_set b3q.out 0 (.slice a0 p1.len c0)
      have S1 := blk_set S0 1 (.int .i64 p2)
      simp only [List.setIfInBounds_toArray, List.set_cons_zero, List.set_cons_succ] at S1
      have SS := hide S1
      have CC := hide (((Chg.refl (fun x => x = P + 1 + 1) wq).setCell (p := ⟨P + 1 + 1, 0, none⟩) (Or.inl rfl) (.slice a0 p1.len c0)).setCell (p := ⟨P + 1 + 1, 1, none⟩) (Or.inl rfl) (.int .i64 p2))
      have r0 := blk_cell b3q.out 0
      have r1 := blk_cell b3q.out 1
      have e0 := blk_free b3q.out 0
      have e1 := blk_free b3q.out 1
      clear S0 S1
      go_wp2_with fail
      have u0 := blk_cell SS.out 0
      have u1 := blk_cell SS.out 1
      simp only [List.getElem?_toArray, List.getElem?_cons_zero, List.getElem?_cons_succ] at u0 u1
      refine bodyPost_ret (v := .tuple #[.agg #[.slice a0 p1.len c0, .int .i64 p2], .bool true]) (by simp [results, Tryd.results55, go_sem, u0, u1]) rfl ?_
      exact ⟨⟨_, rfl, ⟨_, _, rfl, TS.out.chg CC.out (fun x hx e => by have := HX.out x hx; have := HP.out; omega)⟩⟩, (GGq.out.none.trans (CC.out.mono (T := fun x => P ≤ x) (fun x _ e => by omega))).mono (fun x hx e => by have := HP.out; omega)⟩ 
  by_cases k2 : k = 2
  · subst k2
    cases hq : ms.at (i) with
    | none =>
      have hq2 := Fs.at_none hq
      obtain rfl : R = none := by rw [← HR.out]; unfold headG; rw [if_neg (by decide), if_pos rfl]; exact hq
      clear hq
      rcases hq2 with hq2 | hq2
      · go_upto_region 8 with fail
        go_quiet (first | fail)
        have GGq : Hid (Chg (fun _ => False) w (w1.drewN nq)) := hide (GG.out.drewN nq)
        have b3q : Hid ((w1.drewN nq).heap[P + 1 + 1]? = some (.cells #[.slice none 0 0, .int .i64 0] 73)) := b3
        generalize w1.drewN nq = wq at *
        have S0 := blk_set b3q.out 0 (.slice none 0 0)
        have S1 := blk_set S0 1 (.int .i64 0)
        simp only [List.setIfInBounds_toArray, List.set_cons_zero, List.set_cons_succ] at S1
        have SS := hide S1
        have CC := hide (((Chg.refl (fun x => x = P + 1 + 1) wq).setCell (p := ⟨P + 1 + 1, 0, none⟩) (Or.inl rfl) (.slice none 0 0)).setCell (p := ⟨P + 1 + 1, 1, none⟩) (Or.inl rfl) (.int .i64 0))
        have r0 := blk_cell b3q.out 0
        have r1 := blk_cell b3q.out 1
        have e0 := blk_free b3q.out 0
        have e1 := blk_free b3q.out 1
        clear S0 S1
        go_wp2_with fail
        clear c1 c2
        have u0 := blk_cell SS.out 0
        have u1 := blk_cell SS.out 1
        simp only [List.getElem?_toArray, List.getElem?_cons_zero, List.getElem?_cons_succ] at u0 u1
        refine bodyPost_ret (v := .tuple #[.agg #[.slice none 0 0, .int .i64 0], .bool false]) (by simp [results, Tryd.results55, go_sem, u0, u1]) rfl ?_
        exact ⟨⟨_, rfl, TyV.zero _ _⟩, (GGq.out.none.trans (CC.out.mono (T := fun x => P ≤ x) (fun x _ e => by omega))).mono (fun x hx e => by have := HP.out; omega)⟩ 
      · go_upto_region 8 with fail
        go_quiet (first | fail)
        have GGq : Hid (Chg (fun _ => False) w (w1.drewN nq)) := hide (GG.out.drewN nq)
        have b3q : Hid ((w1.drewN nq).heap[P + 1 + 1]? = some (.cells #[.slice none 0 0, .int .i64 0] 73)) := b3
        generalize w1.drewN nq = wq at *
        have S0 := blk_set b3q.out 0 (.slice none 0 0)
        have S1 := blk_set S0 1 (.int .i64 0)
        simp only [List.setIfInBounds_toArray, List.set_cons_zero, List.set_cons_succ] at S1
        have SS := hide S1
        have CC := hide (((Chg.refl (fun x => x = P + 1 + 1) wq).setCell (p := ⟨P + 1 + 1, 0, none⟩) (Or.inl rfl) (.slice none 0 0)).setCell (p := ⟨P + 1 + 1, 1, none⟩) (Or.inl rfl) (.int .i64 0))
        have r0 := blk_cell b3q.out 0
        have r1 := blk_cell b3q.out 1
        have e0 := blk_free b3q.out 0
        have e1 := blk_free b3q.out 1
        clear S0 S1
        go_wp2_with fail
        clear c1 c2
        have u0 := blk_cell SS.out 0
        have u1 := blk_cell SS.out 1
        simp only [List.getElem?_toArray, List.getElem?_cons_zero, List.getElem?_cons_succ] at u0 u1
        refine bodyPost_ret (v := .tuple #[.agg #[.slice none 0 0, .int .i64 0], .bool false]) (by simp [results, Tryd.results55, go_sem, u0, u1]) rfl ?_
        exact ⟨⟨_, rfl, TyV.zero _ _⟩, (GGq.out.none.trans (CC.out.mono (T := fun x => P ≤ x) (fun x _ e => by omega))).mono (fun x hx e => by have := HP.out; omega)⟩ 
    | some p =>
      obtain ⟨q1, q2, q3, q4⟩ := Fs.at_some hq
      obtain rfl : R = some p := by rw [← HR.out]; unfold headG; rw [if_neg (by decide), if_pos rfl]; exact hq
      obtain ⟨m, hm⟩ : ∃ m : Nat, i = (m : Int) := ⟨(i).toNat, by omega⟩
      subst hm
      have hmt : m < ms.toL.length := by have := Fs.toL_len ms; omega
      have q5 : ms.toL[m] = p := by first | (rw [← q4]; congr 1; done) | (rw [← q4]; congr 1; omega)
      obtain ⟨la, lc, hlv, hl⟩ := H2.out
      rcases hl with hz | ⟨g, off, rfl, hg, hl⟩
      · rw [hz] at hmt; exact absurd hmt (Nat.not_lt_zero _)
      injection hlv with e2 e3 e4
      subst e2
      clear e3 e4
      obtain ⟨⟨v0, z0, ts⟩, z1⟩ := lies_get hl m hmt
      obtain ⟨a0, c0, rfl, _⟩ := id ts
      rw [q5] at z0 z1 ts
      obtain ⟨p1, p2⟩ := p
      dsimp only at z0 z1 ts
      have i1 : (0 : Int) ≤ (m : Int) := by omega
      have i2 : (m : Int) < (ms.len : Int) := by omega
      have TS := hide ts
      clear hl hg ts q4 q5 hq
      go_upto_region 8 with fail
      go_quiet (first | fail)
      have GGq : Hid (Chg (fun _ => False) w (w1.drewN nq)) := hide (GG.out.drewN nq)
      have b3q : Hid ((w1.drewN nq).heap[P + 1 + 1]? = some (.cells #[.slice none 0 0, .int .i64 0] 73)) := b3
      replace z0 : (w1.drewN nq).cell? ⟨g, off + m * 2, none⟩ = some (.slice a0 p1.len c0) := z0
      replace z1 : (w1.drewN nq).cell? ⟨g, off + m * 2 + 1, none⟩ = some (.int .i64 p2) := z1
      replace TS : Hid (Ts (w1.drewN nq) X (.slice a0 p1.len c0) p1) := hide (TS.out.chg ((Chg.refl (fun _ => False) w1).drewN nq) (fun _ _ h => h))
      generalize w1.drewN nq = wq at *
      have S0 := blk_set b3q.out 0 (.slice a0 p1.len c0)
      have S1 := blk_set S0 1 (.int .i64 p2)
      simp only [List.setIfInBounds_toArray, List.set_cons_zero, List.set_cons_succ] at S1
      have SS := hide S1
      have CC := hide (((Chg.refl (fun x => x = P + 1 + 1) wq).setCell (p := ⟨P + 1 + 1, 0, none⟩) (Or.inl rfl) (.slice a0 p1.len c0)).setCell (p := ⟨P + 1 + 1, 1, none⟩) (Or.inl rfl) (.int .i64 p2))
      have r0 := blk_cell b3q.out 0
      have r1 := blk_cell b3q.out 1
      have e0 := blk_free b3q.out 0
      have e1 := blk_free b3q.out 1
      clear S0 S1
      go_wp2_with fail
      have u0 := blk_cell SS.out 0
      have u1 := blk_cell SS.out 1
      simp only [List.getElem?_toArray, List.getElem?_cons_zero, List.getElem?_cons_succ] at u0 u1
      refine bodyPost_ret (v := .tuple #[.agg #[.slice a0 p1.len c0, .int .i64 p2], .bool true]) (by simp [results, Tryd.results55, go_sem, u0, u1]) rfl ?_
      exact ⟨⟨_, rfl, ⟨_, _, rfl, TS.out.chg CC.out (fun x hx e => by have := HX.out x hx; have := HP.out; omega)⟩⟩, (GGq.out.none.trans (CC.out.mono (T := fun x => P ≤ x) (fun x _ e => by omega))).mono (fun x hx e => by have := HP.out; omega)⟩ 
  by_cases k3 : k = 0
  · subst k3
    clear k1 k2
    by_cases k4 : i < 0
    · obtain rfl : R = none := by rw [← HR.out]; unfold headG; rw [if_neg (by decide), if_neg (by decide), if_pos rfl, if_pos k4]
      have GGq := GG
      have b3q := b3
      have S0 := blk_set b3q.out 0 (.slice none 0 0)
      have S1 := blk_set S0 1 (.int .i64 0)
      simp only [List.setIfInBounds_toArray, List.set_cons_zero, List.set_cons_succ] at S1
      have SS := hide S1
      have CC := hide (((Chg.refl (fun x => x = P + 1 + 1) w1).setCell (p := ⟨P + 1 + 1, 0, none⟩) (Or.inl rfl) (.slice none 0 0)).setCell (p := ⟨P + 1 + 1, 1, none⟩) (Or.inl rfl) (.int .i64 0))
      have r0 := blk_cell b3q.out 0
      have r1 := blk_cell b3q.out 1
      have e0 := blk_free b3q.out 0
      have e1 := blk_free b3q.out 1
      clear S0 S1
      go_wp2_with fail
      clear c1 c2
      have u0 := blk_cell SS.out 0
      have u1 := blk_cell SS.out 1
      simp only [List.getElem?_toArray, List.getElem?_cons_zero, List.getElem?_cons_succ] at u0 u1
      refine bodyPost_ret (v := .tuple #[.agg #[.slice none 0 0, .int .i64 0], .bool false]) (by simp [results, Tryd.results55, go_sem, u0, u1]) rfl ?_
      exact ⟨⟨_, rfl, TyV.zero _ _⟩, (GGq.out.none.trans (CC.out.mono (T := fun x => P ≤ x) (fun x _ e => by omega))).mono (fun x hx e => by have := HP.out; omega)⟩ 
    have k5 : 0 ≤ i := by omega
    cases hq : ctx.at ((ctx.len : Int) - 1 - i) with
    | none =>
      have hq2 := Fs.at_none hq
      obtain rfl : R = none := by rw [← HR.out]; unfold headG; rw [if_neg (by decide), if_neg (by decide), if_pos rfl, if_neg k4]; exact hq
      clear hq
      rcases hq2 with hq2 | hq2
      · have GGq := GG
        have b3q := b3
        have S0 := blk_set b3q.out 0 (.slice none 0 0)
        have S1 := blk_set S0 1 (.int .i64 0)
        simp only [List.setIfInBounds_toArray, List.set_cons_zero, List.set_cons_succ] at S1
        have SS := hide S1
        have CC := hide (((Chg.refl (fun x => x = P + 1 + 1) w1).setCell (p := ⟨P + 1 + 1, 0, none⟩) (Or.inl rfl) (.slice none 0 0)).setCell (p := ⟨P + 1 + 1, 1, none⟩) (Or.inl rfl) (.int .i64 0))
        have r0 := blk_cell b3q.out 0
        have r1 := blk_cell b3q.out 1
        have e0 := blk_free b3q.out 0
        have e1 := blk_free b3q.out 1
        clear S0 S1
        go_wp2_with fail
        clear c1 c2
        have u0 := blk_cell SS.out 0
        have u1 := blk_cell SS.out 1
        simp only [List.getElem?_toArray, List.getElem?_cons_zero, List.getElem?_cons_succ] at u0 u1
        refine bodyPost_ret (v := .tuple #[.agg #[.slice none 0 0, .int .i64 0], .bool false]) (by simp [results, Tryd.results55, go_sem, u0, u1]) rfl ?_
        exact ⟨⟨_, rfl, TyV.zero _ _⟩, (GGq.out.none.trans (CC.out.mono (T := fun x => P ≤ x) (fun x _ e => by omega))).mono (fun x hx e => by have := HP.out; omega)⟩ 
      · exact absurd hq2 (by omega)
    | some p =>
      obtain ⟨q1, q2, q3, q4⟩ := Fs.at_some hq
      obtain rfl : R = some p := by rw [← HR.out]; unfold headG; rw [if_neg (by decide), if_neg (by decide), if_pos rfl, if_neg k4]; exact hq
      obtain ⟨m, hm⟩ : ∃ m : Nat, (ctx.len : Int) - 1 - i = (m : Int) := ⟨((ctx.len : Int) - 1 - i).toNat, by omega⟩
      have hmt : m < ctx.toL.length := by have := Fs.toL_len ctx; omega
      have q5 : ctx.toL[m] = p := by first | (rw [← q4]; congr 1; done) | (rw [← q4]; congr 1; omega)
      obtain ⟨la, lc, hlv, hl⟩ := H3.out
      rcases hl with hz | ⟨g, off, rfl, hg, hl⟩
      · rw [hz] at hmt; exact absurd hmt (Nat.not_lt_zero _)
      injection hlv with e2 e3 e4
      subst e2
      clear e3 e4
      obtain ⟨⟨v0, z0, ts⟩, z1⟩ := lies_get hl m hmt
      obtain ⟨a0, c0, rfl, _⟩ := id ts
      rw [q5] at z0 z1 ts
      obtain ⟨p1, p2⟩ := p
      dsimp only at z0 z1 ts
      have i1 : (0 : Int) ≤ (m : Int) := by omega
      have i2 : (m : Int) < (ctx.len : Int) := by omega
      have TS := hide ts
      clear hl hg ts q4 q5 hq
      have GGq := GG
      have b3q := b3
      have S0 := blk_set b3q.out 0 (.slice a0 p1.len c0)
      have S1 := blk_set S0 1 (.int .i64 p2)
      simp only [List.setIfInBounds_toArray, List.set_cons_zero, List.set_cons_succ] at S1
      have SS := hide S1
      have CC := hide (((Chg.refl (fun x => x = P + 1 + 1) w1).setCell (p := ⟨P + 1 + 1, 0, none⟩) (Or.inl rfl) (.slice a0 p1.len c0)).setCell (p := ⟨P + 1 + 1, 1, none⟩) (Or.inl rfl) (.int .i64 p2))
      have r0 := blk_cell b3q.out 0
      have r1 := blk_cell b3q.out 1
      have e0 := blk_free b3q.out 0
      have e1 := blk_free b3q.out 1
      clear S0 S1
      go_wp2_with fail
      have u0 := blk_cell SS.out 0
      have u1 := blk_cell SS.out 1
      simp only [List.getElem?_toArray, List.getElem?_cons_zero, List.getElem?_cons_succ] at u0 u1
      refine bodyPost_ret (v := .tuple #[.agg #[.slice a0 p1.len c0, .int .i64 p2], .bool true]) (by simp [results, Tryd.results55, go_sem, u0, u1]) rfl ?_
      exact ⟨⟨_, rfl, ⟨_, _, rfl, TS.out.chg CC.out (fun x hx e => by have := HX.out x hx; have := HP.out; omega)⟩⟩, (GGq.out.none.trans (CC.out.mono (T := fun x => P ≤ x) (fun x _ e => by omega))).mono (fun x hx e => by have := HP.out; omega)⟩ 
  obtain rfl : R = none := by rw [← HR.out]; unfold headG; rw [if_neg k1, if_neg k2, if_neg k3]
  have k1b : (k == 1) = false := by simp [k1]
  have k2b : (k == 2) = false := by simp [k2]
  have k3b : (k == 0) = false := by simp [k3]
  clear k1 k2 k3
  have GGq := GG
  have b3q := b3
  have S0 := blk_set b3q.out 0 (.slice none 0 0)
  have S1 := blk_set S0 1 (.int .i64 0)
  simp only [List.setIfInBounds_toArray, List.set_cons_zero, List.set_cons_succ] at S1
  have SS := hide S1
  have CC := hide (((Chg.refl (fun x => x = P + 1 + 1) w1).setCell (p := ⟨P + 1 + 1, 0, none⟩) (Or.inl rfl) (.slice none 0 0)).setCell (p := ⟨P + 1 + 1, 1, none⟩) (Or.inl rfl) (.int .i64 0))
  have r0 := blk_cell b3q.out 0
  have r1 := blk_cell b3q.out 1
  have e0 := blk_free b3q.out 0
  have e1 := blk_free b3q.out 1
  clear S0 S1
  go_wp2_with fail
  clear c1 c2
  have u0 := blk_cell SS.out 0
  have u1 := blk_cell SS.out 1
  simp only [List.getElem?_toArray, List.getElem?_cons_zero, List.getElem?_cons_succ] at u0 u1
  refine bodyPost_ret (v := .tuple #[.agg #[.slice none 0 0, .int .i64 0], .bool false]) (by simp [results, Tryd.results55, go_sem, u0, u1]) rfl ?_
  exact ⟨⟨_, rfl, TyV.zero _ _⟩, (GGq.out.none.trans (CC.out.mono (T := fun x => P ≤ x) (fun x _ e => by omega))).mono (fun x hx e => by have := HP.out; omega)⟩ 
end Go.Proofs.YtnpcapdlgcaniaaDoor
