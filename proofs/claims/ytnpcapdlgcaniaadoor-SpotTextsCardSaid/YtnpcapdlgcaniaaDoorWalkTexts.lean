/- SpotTexts' walk. -/
import Derived.Test.YtnpcapdlgcaniaaDoorLaidTx
import Derived.Test.YtnpcapdlgcaniaaDoorRefParse
import Derived.Test.YtnpcapdlgcaniaaDoorKnown
import Derived.Test.YtnpcapdlgcaniaaDoorRefCmp
import Derived.Test.YtnpcapdlgcaniaaDoorOpensI
import Derived.Deep.RegionHeld3
import Derived.Deep.DeepCutAuto
import Derived.Deep.CutBlock
namespace Go.Proofs.YtnpcapdlgcaniaaDoor
open Go.RowKit
set_option linter.unusedVariables false
set_option linter.unusedSimpArgs false

theorem take_minT (l : List Int) (n : Nat) : l.take n = l.take (min l.length n) := by
  by_cases h : n ≤ l.length
  · rw [Nat.min_eq_right h]
  · rw [Nat.min_eq_left (by omega), List.take_length, List.take_of_length_le (by omega)]
theorem lens_itoa : ∀ l : List Int, (∀ n ∈ l, In64' n) → Lib.lens (l.map Lib.itoa) ≤ 21 * l.length
  | [], _ => by simp [Lib.lens]
  | n :: l, h => by
    have h1 := lens_itoa l (fun x hx => h x (List.mem_cons_of_mem _ hx))
    have h2 := Lib.itoa_length_le n (h n List.mem_cons_self).1 (h n List.mem_cons_self).2
    simp only [Lib.lens, List.map_cons, List.sum_cons, List.length_cons] at h1 ⊢
    omega
theorem join_le (l : List Int) (h : ∀ n ∈ l, In64' n) (hl : l.length ≤ 100) : (Lib.join (l.map Lib.itoa) [46]).length ≤ 10000 := by
  cases l with
  | nil => simp [Lib.join_nil]
  | cons n r =>
    have h1 := lens_itoa r (fun x hx => h x (List.mem_cons_of_mem _ hx))
    have h2 := Lib.itoa_length_le n (h n List.mem_cons_self).1 (h n List.mem_cons_self).2
    rw [List.map_cons, Lib.join_cons, List.length_append, Lib.joinTail_length]
    simp only [List.length_cons, List.length_map, List.length_nil] at hl ⊢
    omega
theorem text_size (l : List Int) (h : ∀ n ∈ l, In64' n) (hl : l.length ≤ 100) : (textB l).size ≤ 10000 := by
  have h1 := join_le l h hl
  rw [← sbs_len, textL_B]
  unfold textL
  split
  · simp
  · simpa using h1
theorem parse_len (s : List UInt8) : (parseS s).1.length ≤ 60 := by
  unfold parseS
  split
  · simp
  · cases mapO numL (cutL s) with
    | none => simp
    | some l =>
      simp only
      split
      · simp
      · show l.length ≤ 60
        omega
theorem textB_list (l : List Int) : (textB l).data.toList = textL l := by rw [textL_B]

set_option maxRecDepth 100000 in
set_option maxHeartbeats 16000000 in
theorem texts_walk (a : Option Addr) (c : Nat) (l : List Int) (s : ByteArray) (X : Nat → Prop) (w : World) (hc : l.length ≤ c) (hc2 : c ≤ maxLen) (ha : a = none → l.length = 0 ∧ c = 0)
    (hu : Il w X (.slice a l.length c) l) (hX : ∀ x, X x → x < w.heap.size) (hin : ∀ n ∈ l, In64' n) (hT : TabP w) (hM : Max1 w) :
    Calls Tryd.prog 8 #[.slice a l.length c, .string s] w fun e w' => e = .returned (.bool true) ∧ Chg (fun _ => False) w w' := by
  obtain ⟨k1, hk1⟩ : ∃ k1, k1 = min l.length 100 := ⟨_, rfl⟩
  obtain ⟨k2, hk2⟩ : ∃ k2, k2 = min s.size 300 := ⟨_, rfl⟩
  have e1 : min (l.length : Int) 100 = (k1 : Int) := by omega
  have e2 : min (s.size : Int) 300 = (k2 : Int) := by omega
  have q1 : k1 ≤ c := by omega
  have q2 : k2 ≤ s.size := by omega
  have q3 : (s.extract 0 k2).size ≤ 300 := by rw [ByteArray.size_extract]; omega
  have Q3 := hide q3
  have H1 := hide hk1
  have HH := hide (And.intro hin (And.intro hT hM))
  clear hk1 hk2 hT hM hin
  go_enter Tryd.func8, Tryd.ntmps8
  go_wp2_with fail
  go_upto_region 1 with fail
  go_cut [0, 1] (fun u v wx => u = .slice a k1 c ∧ (∃ s2 : ByteArray, v = .string s2 ∧ s2.size ≤ 300) ∧ Hid (Chg (fun _ => False) w wx))
  case first =>
    as_aux_lemma =>
      go_region_held3 (fun _ => True) (trivial) (first | fail)
      all_goals
        go_wp2_with fail
        go_meet
        exact ⟨rfl, ⟨_, rfl, Q3.out⟩, (Chg.refl _ w).drew⟩
  case rest =>
    obtain ⟨rfl, ⟨s2, rfl, hs2⟩, G0⟩ := hcut
    have U0 : Il w X (.slice a k1 c) (l.take 100) := by
      rw [show l.take 100 = l.take k1 by rw [H1.out]; exact take_minT l 100]
      exact hu.take k1 c (by have := H1.out; omega)
    have L1 : k1 = (l.take 100).length := by rw [List.length_take, H1.out]; omega
    have B1 : (l.take 100).length ≤ 100 := by rw [List.length_take]; omega
    have HIN : ∀ n ∈ l.take 100, In64' n := fun n hn => HH.out.1 n (List.mem_of_mem_take hn)
    obtain ⟨_, hT, hM⟩ := HH.out
    clear hc hc2 ha hu e1 e2 H1 q1 q2 q3 Q3 HH
    generalize l.take 100 = ll at *
    subst L1
    obtain ⟨R, hR⟩ : ∃ R, R = parseS s2.data.toList := ⟨_, rfl⟩
    obtain ⟨R2, hR2⟩ : ∃ R2, R2 = parseS (textL ll) := ⟨_, rfl⟩
    have HRl : Hid (R.1.length ≤ 60) := hide (by rw [hR]; exact parse_len _)
    have HR2 : Hid (R2 = if (∀ v ∈ ll, 0 ≤ v ∧ v ≤ 999) then (if 60 < ll.length then ([], 2) else (ll, 0)) else ([], 3)) := hide (by rw [hR2]; exact parse_text ll)
    have U1 := U0.chg G0.out (fun _ _ h => h)
    have hX1 : ∀ x, X x → x < wc.heap.size := fun x hx => Nat.lt_of_lt_of_le (hX x hx) G0.out.size
    have hT1 := hT.chg G0.out
    have hM1 := hM.chg G0.out
    have C37 := hide (text_any ll (by omega) (by have := join_le ll HIN B1; omega) _ X wc hX1 U1 (fun n hn => itoa_at hT1 n (HIN n hn).1 (HIN n hn).2))
    have C38 := hide (fun wy (g : Chg (fun _ => False) wc wy) => parse_any s2 (by omega) wy (hM1.chg g))
    rw [← hR] at C38
    have C39 := hide (fun wy => refparse_any s2 hs2 wy)
    rw [← parse_same, ← hR] at C39
    have C40 := hide (fun wy (g : Chg (fun _ => False) wc wy) => reftext_any ll (by omega) HIN _ X wy (fun x hx => Nat.lt_of_lt_of_le (hX1 x hx) g.size) (U1.chg g (fun _ _ h => h)))
    have C38b := hide (fun wy (g : Chg (fun _ => False) wc wy) => parse_any (textB ll) (by have := text_size ll HIN B1; omega) wy (hM1.chg g))
    rw [textB_list, ← hR2] at C38b
    have UU := hide U1
    have GW := hide G0
    clear hR hR2 U0 U1 HIN hT hM hT1 hM1 G0 hX hX1
    generalize textB ll = TX at *
    go_upto_block 0 with fail
    go_wp2_with fail
    refine C37.out.mono ?_
    rintro e w1 ⟨rfl, g1⟩
    have G1 := hide g1
    clear g1 C37
    go_wp2_with fail
    refine (C38.out w1 G1.out).mono ?_
    rintro e w2 ⟨v6, rfl, i6, g2⟩
    have I6 := hide i6
    have G2 := hide (G1.out.trans g2)
    clear i6 g2 C38 G1
    go_wp2_with fail
    refine (C39.out w2).mono ?_
    rintro e w3 ⟨v8, rfl, i8, g3⟩
    have I6b := hide (I6.out.chg g3 (fun _ _ h => h))
    have I8 := hide i8
    have G3 := hide (G2.out.trans g3)
    clear i8 g3 C39 G2 I6
    go_wp2_with fail
    refine (known_any w3).mono ?_
    rintro e w4 ⟨rfl, g4⟩
    have I6c := hide (I6b.out.chg g4 (fun _ _ h => h))
    have I8b := hide (I8.out.chg g4 (fun _ _ h => h))
    have G4 := hide (G3.out.trans g4)
    clear g4 I6b I8 G3
    go_wp2_with fail
    refine (C40.out w4 G4.out).mono ?_
    rintro e w5 ⟨rfl, g5⟩
    have I6d := hide (I6c.out.chg g5 (fun _ _ h => h))
    have I8c := hide (I8b.out.chg g5 (fun _ _ h => h))
    have G5 := hide (G4.out.trans g5)
    clear g5 I6c I8b G4 C40
    go_wp2_with fail
    refine (rsame_any R.1 R.1 (by have := HRl.out; omega) (by have := HRl.out; omega) v6 v8 (fun _ => True) w5 (I6d.out.up (fun _ _ => trivial)) (I8c.out.up (fun _ _ => trivial))).mono ?_
    rw [cmpL_self]
    rintro e w6 ⟨rfl, g6⟩
    have G6 := hide (G5.out.trans g6)
    clear g6 I6d I8c G5 HRl
    go_wp2_with fail
    refine (C38b.out w6 G6.out).mono ?_
    rintro e w7 ⟨v10, rfl, i10, g7⟩
    have I10 := hide i10
    have G7 := hide (G6.out.trans g7)
    clear i10 g7 C38b G6
    go_wp2_with fail
    have UU7 := hide (UU.out.chg G7.out (fun _ _ h => h))
    have GF := hide (GW.out.out.trans G7.out)
    obtain ⟨R21, R22⟩ := R2
    clear UU GW
    go_loop [12] (fun iv => ∃ i : Nat, i ≤ ll.length ∧ iv = .int .i64 i ∧ Hid (∀ n ∈ ll.take i, 0 ≤ n ∧ n ≤ 999)) (fun iv => ll.length - (intOf iv).toNat)
    case atStart => exact ⟨0, Nat.zero_le _, rfl, hide (fun n hn => by cases hn)⟩
    case round =>
      obtain ⟨i, hi, rfl, hall⟩ := hrel
      by_cases hlt : i < ll.length
      · have i1 : (0 : Int) ≤ (i : Int) := by omega
        have i2 : (i : Int) < (ll.length : Int) := by omega
        obtain ⟨la, lc, hlv, hcell⟩ := UU7.out
        rcases hcell with h0 | ⟨g, off, ha, _, hcell⟩
        · exfalso; rw [h0] at hlt; exact absurd hlt (Nat.not_lt_zero _)
        injection hlv with e1 e2 e3
        subst e1
        subst ha
        have d0 := hcell i hlt
        have HT : ll.take (i + 1) = ll.take i ++ [ll[i]] := List.take_succ_eq_append_getElem hlt
        have HM : ll[i] ∈ ll := List.getElem_mem hlt
        clear hcell
        by_cases hok : 0 ≤ ll[i] ∧ ll[i] ≤ 999
        · have HN : Hid (∀ n ∈ ll.take (i + 1), 0 ≤ n ∧ n ≤ 999) := hide (by
            intro n hn
            rw [HT] at hn
            rcases List.mem_append.1 hn with h | h
            · exact hall.out n h
            · rw [List.mem_singleton.1 h]; exact hok)
          clear HT HM hall
          generalize ll[i] = x at *
          go_wp2_with fail
          all_goals try (exfalso; omega)
          go_round
          case rel => exact ⟨i + 1, by omega, by go_num, HN⟩
          case measure => simp [intOf]; omega
        · have HE : Hid (R22 = 3) := hide (by
            have h := HR2.out
            rw [if_neg (fun h => hok (h _ HM))] at h
            exact (Prod.mk.inj h).2)
          have he := HE.out
          subst he
          clear HT HM hall HE HR2
          generalize ll[i] = x at *
          go_wp2_with fail
          all_goals first
            | (exfalso; omega)
            | (go_ret
               exact ⟨rfl, GF.out⟩)
      · have hif : i = ll.length := by omega
        have i2 : decide (i < ll.length) = false := by simp [hlt]
        have hall2 : ∀ v ∈ ll, 0 ≤ v ∧ v ≤ 999 := fun v hv => hall.out v (by rw [hif, List.take_length]; exact hv)
        have HR3 := HR2.out
        rw [if_pos hall2] at HR3
        clear HR2 hall hall2
        by_cases h60 : 60 < ll.length
        · rw [if_pos h60] at HR3
          obtain ⟨rfl, rfl⟩ := Prod.mk.inj HR3
          have h60I : (60 : Int) < (ll.length : Int) := by omega
          clear HR3
          subst hif
          go_wp2_with fail
          go_wp2_with fail
          go_ret
          exact ⟨rfl, GF.out⟩
        · rw [if_neg h60] at HR3
          have h60I : ¬ (60 : Int) < (ll.length : Int) := by omega
          obtain ⟨rfl, rfl⟩ := Prod.mk.inj HR3
          have C21 := hide (rsame_any R21 R21 (by omega) (by omega) v10 _ (fun _ => True) w7 (I10.out.up (fun _ _ => trivial)) (UU7.out.up (fun _ _ => trivial)))
          rw [cmpL_self] at C21
          clear HR3
          subst hif
          go_wp2_with fail
          go_wp2_with fail
          refine C21.out.mono ?_
          rintro e w8 ⟨rfl, g8⟩
          have GG := hide (GF.out.trans g8)
          clear g8
          go_wp2_with fail
          go_ret
          exact ⟨rfl, GG.out⟩

/-- whatever the path and the text -/
theorem texts_law (W : World) (hT : TabP W) (hM : Max1 W) (x : IsIn) {u : Value} (hu : IsIs W u x) (s : ByteArray) : Calls Tryd.prog 8 #[u, .string s] W fun e W' => e = .returned (.bool true) ∧ Below W.heap.size W W' := by
  obtain ⟨rfl, h1, h2, h3, h4, h5⟩ := hu
  exact (texts_walk x.a x.c x.l s _ W h1 h2 h3 h4 (fun _ h => h) h5 hT hM).mono fun e W' ⟨h, g⟩ => ⟨h, g.below (Nat.le_refl _) (fun _ h => h.elim)⟩
end Go.Proofs.YtnpcapdlgcaniaaDoor
