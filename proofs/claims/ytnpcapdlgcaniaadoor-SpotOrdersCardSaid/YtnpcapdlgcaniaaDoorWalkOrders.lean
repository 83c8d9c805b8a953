/- SpotOrders' walk. -/
import Derived.Test.YtnpcapdlgcaniaaDoorKnown
import Derived.Deep.RegionHeld3
import Derived.Deep.DeepCutAuto
import Derived.Deep.CutBlock
import Derived.Test.YtnpcapdlgcaniaaDoorOrders
import Derived.Test.YtnpcapdlgcaniaaDoorRefCmp
import Derived.Test.YtnpcapdlgcaniaaDoorOpensI
import Derived.Test.YtnpcapdlgcaniaaDoorLaid
namespace Go.Proofs.YtnpcapdlgcaniaaDoor
open Go.RowKit
set_option linter.unusedVariables false
set_option linter.unusedSimpArgs false

theorem take_min (l : List Int) (n : Nat) : l.take n = l.take (min l.length n) := by
  by_cases h : n ≤ l.length
  · rw [Nat.min_eq_right h]
  · rw [Nat.min_eq_left (by omega), List.take_length, List.take_of_length_le (by omega)]
/-- the numbers so far are the same -/
def uB (l m : List Int) (i : Nat) : Bool := decide (m.length ≤ l.length) && decide (l.take i = m.take i)
theorem uB_zero (l m : List Int) : uB l m 0 = decide (m.length ≤ l.length) := by simp [uB]
theorem uB_step {l m : List Int} {i : Nat} (h : uB l m i = true) (h1 : i < l.length) (h2 : i < m.length) : uB l m (i + 1) = decide (l[i] = m[i]) := by
  unfold uB at *
  simp only [Bool.and_eq_true, decide_eq_true_eq] at h
  rw [decide_eq_true h.1, Bool.true_and, List.take_succ_eq_append_getElem h1, List.take_succ_eq_append_getElem h2, h.2]
  congr 1
  simp only [List.append_cancel_left_eq, List.cons.injEq, and_true]
theorem uB_false {l m : List Int} {i : Nat} (h : uB l m i = false) (h2 : i ≤ m.length) : underB l m = false := by
  unfold uB at h
  unfold underB
  by_cases h1 : m.length ≤ l.length
  · rw [decide_eq_true h1, Bool.true_and] at h ⊢
    have h := of_decide_eq_false h
    cases hq : intsEq (l.take m.length) m with
    | false => rfl
    | true =>
      have e := intsEq_iff.1 hq
      exact absurd (by rw [← e, List.take_take, Nat.min_eq_left h2]) h
  · rw [decide_eq_false h1, Bool.false_and]
theorem uB_all (l m : List Int) : uB l m m.length = underB l m := by
  unfold uB underB
  rw [List.take_length]
  congr 1
  cases h : intsEq (l.take m.length) m with
  | true => exact decide_eq_true (intsEq_iff.1 h)
  | false => exact decide_eq_false (fun e => by rw [intsEq_iff.2 e] at h; cases h)
theorem cmpL_in : ∀ l m : List Int, cmpL l m = -1 ∨ cmpL l m = 0 ∨ cmpL l m = 1
  | [], [] => Or.inr (Or.inl rfl)
  | [], _ :: _ => Or.inl rfl
  | _ :: _, [] => Or.inr (Or.inr rfl)
  | x :: l, y :: m => by
    simp only [cmpL]
    split
    · exact Or.inl rfl
    · split
      · exact Or.inr (Or.inr rfl)
      · exact cmpL_in l m
theorem cmpL_wrap (l m : List Int) : wrap64 (-(cmpL l m)) = -(cmpL l m) := by
  rcases cmpL_in l m with h | h | h <;> rw [h] <;> unfold wrap64 <;> omega
theorem underB_self (l : List Int) : underB l l = true := by unfold underB; rw [decide_eq_true (Nat.le_refl _), List.take_length, intsEq_iff.2 rfl]; rfl
theorem underB_nil (l : List Int) : underB l [] = true := by unfold underB; simp [intsEq]
set_option maxRecDepth 100000 in
set_option maxHeartbeats 8000000 in
theorem orders_walk (a b : Option Addr) (c d : Nat) (l m : List Int) (X : Nat → Prop) (w : World) (hc : l.length ≤ c) (hc2 : c ≤ maxLen) (ha : a = none → l.length = 0 ∧ c = 0) (hd : m.length ≤ d) (hd2 : d ≤ maxLen) (hb : b = none → m.length = 0 ∧ d = 0)
    (hu : Il w X (.slice a l.length c) l) (hv : Il w X (.slice b m.length d) m) :
    Calls Tryd.prog 6 #[.slice a l.length c, .slice b m.length d] w fun e w' => e = .returned (.bool true) ∧ Chg (fun _ => False) w w' := by
  obtain ⟨k1, hk1⟩ : ∃ k1, k1 = min l.length 100 := ⟨_, rfl⟩
  obtain ⟨k2, hk2⟩ : ∃ k2, k2 = min m.length 100 := ⟨_, rfl⟩
  have e1 : min (l.length : Int) 100 = (k1 : Int) := by omega
  have e2 : min (m.length : Int) 100 = (k2 : Int) := by omega
  have q1 : k1 ≤ c := by omega
  have q2 : k2 ≤ d := by omega
  have H1 := hide hk1
  have H2 := hide hk2
  clear hk1 hk2
  go_enter Tryd.func6, Tryd.ntmps6
  go_wp2_with fail
  go_upto_region 1 with fail
  go_cut [0, 1] (fun u v wx => u = .slice a k1 c ∧ v = .slice b k2 d ∧ Hid (Chg (fun _ => False) w wx))
  case first =>
    as_aux_lemma =>
      go_region_held3 (fun _ => True) (trivial) (first | fail)
      all_goals
        go_wp2_with fail
        go_meet
        exact ⟨rfl, rfl, (Chg.refl _ w).drew⟩
  case rest =>
    obtain ⟨rfl, rfl, G0⟩ := hcut
    have U0 : Il w X (.slice a k1 c) (l.take 100) := by
      rw [show l.take 100 = l.take k1 by rw [H1.out]; exact take_min l 100]
      exact hu.take k1 c (by have := H1.out; omega)
    have V0 : Il w X (.slice b k2 d) (m.take 100) := by
      rw [show m.take 100 = m.take k2 by rw [H2.out]; exact take_min m 100]
      exact hv.take k2 d (by have := H2.out; omega)
    have L1 : k1 = (l.take 100).length := by rw [List.length_take, H1.out]; omega
    have L2 : k2 = (m.take 100).length := by rw [List.length_take, H2.out]; omega
    have ha2 : a = none → k1 = 0 ∧ c = 0 := fun e => by have := ha e; have := H1.out; omega
    have UV := hide (And.intro U0 V0)
    have B1 : (l.take 100).length ≤ 100 := by rw [List.length_take]; omega
    have B2 : (m.take 100).length ≤ 100 := by rw [List.length_take]; omega
    clear hc hc2 ha hd hd2 hb hu hv e1 e2 H1 H2 U0 V0
    generalize l.take 100 = ll at *
    generalize m.take 100 = mm at *
    subst L1 L2
    have HC := hide (And.intro q1 ha2)
    clear q1 q2 ha2
    go_upto_block 0 with fail
    have HU := hide (uB_zero ll mm)
    rw [← uB_zero]
    obtain ⟨R, hR⟩ : ∃ R, underB ll mm = R := ⟨_, rfl⟩
    have HR := hide hR
    clear hR
    have VV := hide (And.intro (UV.out.1.chg G0.out (fun _ _ h => h)) (UV.out.2.chg G0.out (fun _ _ h => h)))
    clear UV
    go_cut [5] (fun v wx => v = .bool R ∧ Hid (Chg (fun _ => False) wc wx))
    case first =>
      as_aux_lemma =>
        go_wp2_with fail
        go_loopw [5, 6] (fun uv iv wr => ∃ (i : Nat) (u : Bool), i ≤ mm.length ∧ uv = .bool u ∧ iv = .int .i64 i ∧ Hid (u = uB ll mm i) ∧ Hid (Chg (fun _ => False) wc wr)) (fun _ iv _ => mm.length - (intOf iv).toNat)
        case atStart => exact ⟨0, _, Nat.zero_le _, rfl, rfl, hide rfl, hide (Chg.refl _ _)⟩
        case round =>
          obtain ⟨i, u, hi, rfl, rfl, hu, GG⟩ := hrel
          cases u with
          | false =>
            have RES : Hid (R = false) := hide (HR.out ▸ (uB_false hu.out.symm hi))
            by_cases hlt : i < mm.length
            · go_wp2_with fail
              go_meet
              exact ⟨congrArg Value.bool RES.out.symm, GG⟩
            · go_wp2_with fail
              go_meet
              exact ⟨congrArg Value.bool RES.out.symm, GG⟩
          | true =>
            by_cases hlt : i < mm.length
            · have hlen : mm.length ≤ ll.length := by
                have := hu.out.symm
                unfold uB at this
                simp only [Bool.and_eq_true, decide_eq_true_eq] at this
                exact this.1
              have hlt1 : i < ll.length := by omega
              have ST := hide (uB_step hu.out.symm hlt1 hlt)
              obtain ⟨a0, c0, e0, h0⟩ := VV.out.1
              obtain ⟨b0, d0, e1, h1⟩ := VV.out.2
              injection e0 with e00 e01 e02
              injection e1 with e10 e11 e12
              subst e00 e02 e10 e12
              rcases h0 with h0 | ⟨ga, oa, rfl, _, h0⟩
              · subst h0; exact absurd hlt1 (Nat.not_lt_zero _)
              rcases h1 with h1 | ⟨gb, ob, rfl, _, h1⟩
              · subst h1; exact absurd hlt (Nat.not_lt_zero _)
              have z0 := GG.out.cell (fun h => h) (h0 i hlt1)
              have z1 := GG.out.cell (fun h => h) (h1 i hlt)
              clear h0 h1
              have i0 : (0 : Int) ≤ (i : Int) := by omega
              have i1 : (i : Int) < (ll.length : Int) := by omega
              have i2 : (i : Int) < (mm.length : Int) := by omega
              go_upto_block 1 with fail
              go_cut [5] (fun v wx => v = .bool (decide (ll[i] = mm[i])) ∧ Hid (Chg (fun _ => False) wr wx))
              case first =>
                as_aux_lemma =>
                  go_wp2_with fail
                  go_region_held3 (fun w' => w'.cell? ⟨ga, oa + i, none⟩ = some (.int .i64 ll[i]) ∧ w'.cell? ⟨gb, ob + i, none⟩ = some (.int .i64 mm[i])) (go_keep) (first | fail)
                  all_goals
                    go_wp2_with fail
                    go_meet
                    exact ⟨rfl, (Chg.refl _ _).drew⟩
              case rest =>
                obtain ⟨rfl, G9⟩ := hcut
                have GF := hide (GG.out.trans G9.out)
                clear z0 z1
                rw [← ST.out]
                go_wp2_with fail
                go_roundw
                case rel => exact ⟨i + 1, _, by omega, rfl, by go_num, hide rfl, GF⟩
                case measure => simp [intOf]; omega
            · have hie : i = mm.length := by omega
              have RES : Hid (R = true) := hide (by rw [← HR.out, ← uB_all, ← hie]; exact hu.out.symm)
              go_wp2_with fail
              go_meet
              exact ⟨congrArg Value.bool RES.out.symm, GG⟩
    case rest =>
      obtain ⟨rfl, G1⟩ := hcut
      have hm := cmpL_anti ll mm
      have V2 := hide (And.intro (VV.out.1.chg G1.out (fun _ _ h => h)) (VV.out.2.chg G1.out (fun _ _ h => h)))
      have G2 := hide (G0.out.trans G1.out)
      have KN := hide (known_any)
      clear VV G0 G1 HU
      go_wp2_with fail
      refine (KN.out _).mono ?_
      rintro e w2 ⟨rfl, g2⟩
      have V3 := hide (And.intro (V2.out.1.chg g2 (fun _ _ h => h)) (V2.out.2.chg g2 (fun _ _ h => h)))
      have G3 := hide (G2.out.trans g2)
      clear V2 G2 g2 KN
      go_wp2_with fail
      refine (spcmp_any ll mm (by omega) (by omega) _ _ X _ V3.out.1 V3.out.2).mono ?_
      rintro e _ ⟨rfl, rfl⟩
      go_wp2_with fail
      refine (rcmp_any ll mm (by omega) (by omega) _ _ X _ V3.out.1 V3.out.2).mono ?_
      rintro e w3 ⟨rfl, g3⟩
      have V4 := hide (And.intro (V3.out.1.chg g3 (fun _ _ h => h)) (V3.out.2.chg g3 (fun _ _ h => h)))
      have G4 := hide (G3.out.trans g3)
      clear V3 G3 g3
      go_wp2_with fail
      refine (spcmp_any mm ll (by omega) (by omega) _ _ X _ V4.out.2 V4.out.1).mono ?_
      rintro e _ ⟨rfl, rfl⟩
      rw [hm]
      go_wp2_with fail
      refine (spcmp_any ll mm (by omega) (by omega) _ _ X _ V4.out.1 V4.out.2).mono ?_
      rintro e _ ⟨rfl, rfl⟩
      have hw := cmpL_wrap ll mm
      generalize cmpL ll mm = RC at *
      clear hm
      go_wp2_with fail
      refine (under_any ll mm (by omega) (by omega) a c HC.out.1 HC.out.2 _ X _ V4.out.1 V4.out.2).mono ?_
      rintro e w5 ⟨rfl, g5⟩
      rw [HR.out]
      have V5 := hide (V4.out.1.chg g5 (fun _ _ h => h))
      have G5 := hide (G4.out.trans g5)
      clear V4 G4 g5
      go_wp2_with fail
      refine (under_any ll [] (by omega) (by decide) a c HC.out.1 HC.out.2 _ X _ V5.out (Il.nil _ _)).mono ?_
      rintro e w6 ⟨rfl, g6⟩
      rw [underB_nil]
      have V6 := hide (V5.out.chg g6 (fun _ _ h => h))
      have G6 := hide (G5.out.trans g6)
      clear V5 G5 g6
      go_wp2_with fail
      refine (under_any ll ll (by omega) (by omega) a c HC.out.1 HC.out.2 _ X _ V6.out V6.out).mono ?_
      rintro e w7 ⟨rfl, g7⟩
      rw [underB_self]
      have G7 := hide (G6.out.trans g7)
      clear V6 G6 g7
      go_wp2_with fail
      go_ret
      exact ⟨by simp, G7.out⟩

theorem orders_law (W : World) (hT : Tabs W) (x : IsIn) {u : Value} (hu : IsIs W u x) (y : IsIn) {v : Value} (hv : IsIs W v y) : Calls Tryd.prog 6 #[u, v] W fun e W' => e = .returned (.bool true) ∧ Below W.heap.size W W' := by
  obtain ⟨rfl, h1, h2, h3, h4, _⟩ := hu
  obtain ⟨rfl, k1, k2, k3, k4, _⟩ := hv
  exact (orders_walk x.a y.a x.c y.c x.l y.l _ W h1 h2 h3 k1 k2 k3 h4 k4).mono fun e W' ⟨h, g⟩ => ⟨h, g.below (Nat.le_refl _) (fun _ h => h.elim)⟩
end Go.Proofs.YtnpcapdlgcaniaaDoor
