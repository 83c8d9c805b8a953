/- The document's 'above', by rounds. -/
import Derived.Test.YtdcpcemihpkkaaaPairs
namespace Go.Proofs.Ytdcpcemihpkkaaa
open Go.RowKit Go.Maps
set_option linter.unusedVariables false
set_option linter.unusedSimpArgs false

def natI (u : List Nat) : List Int := u.map fun (c : Nat) => (c : Int)
theorem natI_len (u : List Nat) : (natI u).length = u.length := by unfold natI; rw [List.length_map]
def hasI (u : List Int) (x : Int) : Bool := u.any (· == x)
theorem hasI_natI (u : List Nat) (x : Nat) : hasI (natI u) (x : Int) = has u x := by
  unfold hasI natI has
  rw [List.any_map]
  congr 1
  funext c
  simp only [Function.comp]
  by_cases h : c = x
  · subst h; rw [beq_self_eq_true, beq_self_eq_true]
  · rw [beq_eq_false_iff_ne.2 h, beq_eq_false_iff_ne.2 (by omega)]

theorem hasI_app (u v : List Int) (x : Int) : hasI (u ++ v) x = (hasI u x || hasI v x) := by
  unfold hasI; rw [List.any_append]
theorem hasI_at {u : List Int} {x : Int} {k : Nat} (h : k < u.length) (e : u[k] = x) : hasI u x = true := by
  unfold hasI
  rw [List.any_eq_true]
  exact ⟨_, List.getElem_mem h, by simp [e]⟩

theorem has_some (v : Value) (l : List Int) (hl : l.length ≤ 10000000) (x : Int) (B : Nat) (w : World) (hv : Ints w B v l) :
    Calls Try.prog 43 #[v, .int .i64 x] w fun e w' => e = .returned (.bool (hasI l x)) ∧ w = w' := by
  obtain ⟨a, cap, rfl, hrow⟩ := hv
  have HV := hide hrow
  obtain ⟨R, hR⟩ : ∃ R, hasI l x = R := ⟨_, rfl⟩
  rw [hR]
  have HR := hide hR
  clear hrow hR
  go_enter Try.func43, Try.ntmps43
  go_wp2_with fail
  go_loop [5] (fun iv => ∃ k : Nat, k ≤ l.length ∧ iv = .int .i64 k ∧ Hid (hasI (l.take k) x = false)) (fun iv => l.length - (intOf iv).toNat)
  case atStart => exact ⟨0, Nat.zero_le _, rfl, by unfold Hid; simp [hasI]⟩
  case round =>
    obtain ⟨k, hk, rfl, hI⟩ := hrel
    by_cases hlt : k < l.length
    · rcases HV.out with h0 | ⟨g, off, rfl, hg, hc⟩
      · rw [h0] at hlt; exact absurd hlt (Nat.not_lt_zero _)
      have d0 := hc k hlt
      have t1 := List.take_succ_eq_append_getElem hlt
      have ht : l[k] = x → hasI l x = true := fun e => hasI_at hlt e
      generalize l[k] = y at *
      have i0 : (0 : Int) ≤ (k : Int) := by omega
      have i1 : (k : Int) < (l.length : Int) := by omega
      by_cases e : y = x
      · subst e
        have hf : R = true := by rw [← HR.out]; exact ht rfl
        subst hf
        clear hc t1 ht hI
        have eb : (y == y) = true := by simp
        go_wp2_with fail
        go_ret
        exact ⟨rfl, rfl⟩
      · have hn : Hid (hasI (l.take (k + 1)) x = false) := by
          unfold Hid
          rw [t1, hasI_app, hI.out]
          simp [hasI, e]
        clear hc t1 ht hI
        have eb : (y == x) = false := by simp [e]
        go_wp2_with fail
        go_round
        case rel => exact ⟨k + 1, by omega, by go_num, hn⟩
        case measure => simp [intOf]; omega
    · have hkl : k = l.length := by omega
      subst hkl
      have hf : R = false := by rw [← HR.out]; have := hI.out; rwa [List.take_length] at this
      subst hf
      clear hI
      go_wp2_with fail
      go_ret
      exact ⟨rfl, rfl⟩

/-- An own row of places. -/
def UAcc (w : World) (base : Nat) (v : Value) (u : List Nat) : Prop := w.ownsRow base 3 1 v (natI u).length ((natI u).map (Value.int .i64))
theorem UAcc.ints {w : World} {base : Nat} {v : Value} {u : List Nat} (h : UAcc w base v u) : Ints w w.heap.size v (natI u) := ints_own h

theorem has_acc (v : Value) (u : List Nat) (hl : u.length ≤ 10000000) (x base : Nat) (w : World) (hv : UAcc w base v u) :
    Calls Try.prog 43 #[v, .int .i64 (x : Int)] w fun e w' => e = .returned (.bool (has u x)) ∧ w = w' := by
  rw [← hasI_natI]
  exact has_some v (natI u) (by rw [natI_len]; exact hl) x _ w hv.ints

/-- the first k pairs of a round -/
def stepsF (a : Nat) (ps : Pairs) (k : Nat) (u : List Nat) : List Nat := (ps.take k).foldl (step1 a) u
theorem stepsF_succ (a : Nat) (ps : Pairs) (k : Nat) (u : List Nat) (h : k < ps.length) : stepsF a ps (k + 1) u = step1 a (stepsF a ps k u) ps[k] := by
  unfold stepsF
  rw [List.take_succ_eq_append_getElem h, List.foldl_append]
  rfl
theorem stepsF_all (a : Nat) (ps : Pairs) (u : List Nat) : stepsF a ps ps.length u = round a ps u := by
  unfold stepsF round
  rw [List.take_length]
theorem step1_yes {a : Nat} {u : List Nat} {p : Nat × Nat} (h : ((p.1 == a) || has u p.1) = true) (h2 : has u p.2 = false) : step1 a u p = u ++ [p.2] := by
  unfold step1; rw [h, h2]; rfl
theorem step1_no {a : Nat} {u : List Nat} {p : Nat × Nat} (h : ((p.1 == a) || has u p.1) = false ∨ has u p.2 = true) : step1 a u p = u := by
  unfold step1
  rcases h with h | h
  · rw [h]; rfl
  · rw [h, Bool.not_true, Bool.and_false]; rfl
theorem natI_snoc (u : List Nat) (x : Nat) : natI (u ++ [x]) = natI u ++ [(x : Int)] := by unfold natI; rw [List.map_append]; rfl

set_option maxRecDepth 100000 in
set_option maxHeartbeats 8000000 in
theorem aboveR_any (v : Value) (ps : Pairs) (hps : ps.length ≤ 1000) (a b B : Nat) (w : World) (hv : PRow w B v ps) (hB : B ≤ w.heap.size) :
    Calls Try.prog 27 #[v, .int .i64 (a : Int), .int .i64 (b : Int)] w fun e w' => e = .returned (.bool (above ps a b)) ∧ Chg (fun _ => False) w w' := by
  obtain ⟨i0, hi0, hz0, hz1, hz2⟩ := info_parts info3
  obtain ⟨pa, cap, rfl, hrow⟩ := hv
  have HV := hide hrow
  have HB := hide hB
  obtain ⟨R, hR⟩ : ∃ R, above ps a b = R := ⟨_, rfl⟩
  have HA : Hid (R = has (rounds a ps (ps.length + 1) []) b) := hide hR.symm
  rw [hR]
  clear hR
  obtain ⟨bo, hbo⟩ : ∃ bo, w.heap.size = bo := ⟨_, rfl⟩
  have HO := hide hbo
  clear hrow hB hbo
  go_enter Try.func27, Try.ntmps27
  go_wp2_with fail
  go_loopw [8, 7] (fun iv ov wr => ∃ (r : Nat) (us : List Nat), r ≤ ps.length + 1 ∧ iv = .int .i64 r ∧ Hid (UAcc wr bo ov us) ∧ us.length ≤ r * 1000 ∧ Hid (rounds a ps r [] = us) ∧ Hid (Chg (fun _ => False) w wr)) (fun iv _ _ => ps.length + 1 - (intOf iv).toNat)
  case atStart => exact ⟨0, [], Nat.zero_le _, rfl, ⟨rfl, Or.inl ⟨rfl, rfl⟩⟩, Nat.zero_le _, rfl, Chg.refl _ _⟩
  case round =>
    obtain ⟨r, us, hr, rfl, hU, hul, hE, hC⟩ := hrel
    by_cases hlt : r < ps.length + 1
    · have q0 : decide (r ≤ ps.length) = true := by simp; omega
      go_wp2_with fail
      generalize wr = w0 at *
      clear q0
      go_loopw [9, 7] (fun jv ov wr2 => ∃ (k : Nat) (vs : List Nat), k ≤ ps.length ∧ jv = .int .i64 k ∧ Hid (UAcc wr2 bo ov vs) ∧ vs.length ≤ r * 1000 + k ∧ Hid (stepsF a ps k us = vs) ∧ Hid (Chg (fun _ => False) w wr2)) (fun jv _ _ => ps.length - (intOf jv).toNat)
      case atStart => exact ⟨0, us, Nat.zero_le _, rfl, hU, by omega, by unfold Hid; simp [stepsF], hC⟩
      case round =>
        clear hU hC
        obtain ⟨k, vs, hk, rfl, hU, hul2, hS, hC⟩ := hrel
        by_cases hlk : k < ps.length
        · rcases HV.out with h0 | ⟨g, off, rfl, hg, hc⟩
          · rw [h0] at hlk; exact absurd hlk (Nat.not_lt_zero _)
          have d0 := hC.out.cell (fun h => h) (hc k hlk).1
          have d1 := hC.out.cell (fun h => h) (hc k hlk).2
          have st := stepsF_succ a ps k us hlk
          rw [hS.out] at st
          have ST := hide st
          have i0' : (0 : Int) ≤ (k : Int) := by omega
          have i1' : (k : Int) < (ps.length : Int) := by omega
          have hb0 := hide (has_acc _ vs (by have : r * 1000 ≤ 1001 * 1000 := Nat.mul_le_mul_right _ (by omega); omega) (ps[k].1) bo _ hU.out)
          have hb1 := hide (has_acc _ vs (by have : r * 1000 ≤ 1001 * 1000 := Nat.mul_le_mul_right _ (by omega); omega) (ps[k].2) bo _ hU.out)
          clear hc st
          generalize ps[k] = p at *
          obtain ⟨p0, p1⟩ := p
          dsimp only at d0 d1 hb0 hb1
          have KEEP (h : step1 a vs (p0, p1) = vs) : Hid (stepsF a ps (k + 1) us = vs) := by unfold Hid; rw [ST.out, h]
          by_cases c0 : ((p0 == a) || has vs p0) = true
          · have NEXT (h : has vs p1 = true) := KEEP (step1_no (Or.inr h))
            have MORE (h : has vs p1 = false) : Hid (stepsF a ps (k + 1) us = vs ++ [p1]) := by unfold Hid; rw [ST.out, step1_yes c0 h]
            have HC0 := hide c0
            clear KEEP ST c0
            by_cases e0 : p0 = a
            · have eb : ((p0 : Int) == (a : Int)) = true := by simp [e0]
              clear hb0
              cases h1 : has vs p1
              · rw [h1] at hb1
                have HN := MORE h1
                clear NEXT MORE h1 HC0 e0
                have C2 := hide (hC.out.trans (al wr (.cells #[.int .i64 (p1 : Int)] 3)))
                have hU' : wr.ownsRow bo 3 1 u7 (natI vs).length ((natI vs).map (Value.int .i64)) := hU.out
                have O3 := hide (hU'.alloc (.cells #[.int .i64 (p1 : Int)] 3))
                have NB := hide (World.news_of_block (cs := #[.int .i64 (p1 : Int)]) (t := 3) (fr := (0, 0)) (heap_alloc_new wr _))
                have HO3 : Hid (bo ≤ (wr.alloc (.cells #[.int .i64 (p1 : Int)] 3)).heap.size) := hide (by have := C2.out.size; have := HO.out; omega)
                obtain ⟨nn, hnn⟩ : ∃ nn, nn = (natI vs).length := ⟨_, rfl⟩
                obtain ⟨xs, hxs⟩ : ∃ xs, xs = (natI vs).map (Value.int .i64) := ⟨_, rfl⟩
                rw [← hnn, ← hxs] at O3
                have hnl : nn ≤ 2000000 := by rw [hnn, natI_len]; have : r * 1000 ≤ 1001 * 1000 := Nat.mul_le_mul_right _ (by omega); omega
                have HXL := hide (And.intro hnn hxs)
                clear hU' hnn hxs
                go_wp2_with fail
                refine hb1.out.mono ?_
                rintro e wz ⟨rfl, rfl⟩
                clear hb1
                go_wp2_with (at_builtin; refine wpList_append_own _ rfl _ _ 36 rfl bo 3 i0 (.int .i64 0) 1 8 Try.underlying36 hi0 hz0 hz1 hz2 rfl (by decide) _ nn xs rfl O3.out ⟨wr.heap.size, 0, none⟩ 1 1 [.int .i64 (p1 : Int)] rfl rfl NB.out (by simp [Value.oneCell']) (by simp [maxLen]; omega) (by omega) HO3.out ?_; intro v' w3 hown3 hgrow hq)
                have G3 := own_grown O3.out hgrow HO3.out
                have O4 : Hid (UAcc w3 bo v' (vs ++ [p1])) := hide (by
                  unfold UAcc
                  rw [natI_snoc, List.length_append, List.map_append, ← HXL.out.1, ← HXL.out.2]
                  exact hown3)
                have C4 : Hid (Chg (fun _ => False) w w3) := hide (by
                  have h1 : Chg (fun x => bo ≤ x) w w3 := C2.out.none.trans G3
                  exact h1.mono (fun x hx h => by have := HO.out; omega))
                clear hown3 hgrow G3 O3 NB C2
                go_wp2_with fail
                go_roundw
                case rel => exact ⟨k + 1, vs ++ [p1], by omega, by go_num, O4, by simp; omega, HN, C4⟩
                case measure => simp [intOf]; omega
              · rw [h1] at hb1
                have HN := NEXT h1
                clear NEXT MORE h1 HC0 e0
                go_wp2_with fail
                refine hb1.out.mono ?_
                rintro e wz ⟨rfl, rfl⟩
                go_wp2_with fail
                go_roundw
                case rel => exact ⟨k + 1, vs, by omega, by go_num, hU, by omega, HN, hC⟩
                case measure => simp [intOf]; omega
            · have eb : ((p0 : Int) == (a : Int)) = false := by simp; omega
              have hy : has vs p0 = true := by
                have h := HC0.out
                rw [beq_eq_false_iff_ne.2 e0, Bool.false_or] at h
                exact h
              rw [hy] at hb0
              clear hy
              cases h1 : has vs p1
              · rw [h1] at hb1
                have HN := MORE h1
                clear NEXT MORE h1 HC0 e0
                have C2 := hide (hC.out.trans (al wr (.cells #[.int .i64 (p1 : Int)] 3)))
                have hU' : wr.ownsRow bo 3 1 u7 (natI vs).length ((natI vs).map (Value.int .i64)) := hU.out
                have O3 := hide (hU'.alloc (.cells #[.int .i64 (p1 : Int)] 3))
                have NB := hide (World.news_of_block (cs := #[.int .i64 (p1 : Int)]) (t := 3) (fr := (0, 0)) (heap_alloc_new wr _))
                have HO3 : Hid (bo ≤ (wr.alloc (.cells #[.int .i64 (p1 : Int)] 3)).heap.size) := hide (by have := C2.out.size; have := HO.out; omega)
                obtain ⟨nn, hnn⟩ : ∃ nn, nn = (natI vs).length := ⟨_, rfl⟩
                obtain ⟨xs, hxs⟩ : ∃ xs, xs = (natI vs).map (Value.int .i64) := ⟨_, rfl⟩
                rw [← hnn, ← hxs] at O3
                have hnl : nn ≤ 2000000 := by rw [hnn, natI_len]; have : r * 1000 ≤ 1001 * 1000 := Nat.mul_le_mul_right _ (by omega); omega
                have HXL := hide (And.intro hnn hxs)
                clear hU' hnn hxs
                go_wp2_with fail
                refine hb0.out.mono ?_
                rintro e wz ⟨rfl, rfl⟩
                clear hb0
                go_wp2_with fail
                refine hb1.out.mono ?_
                rintro e wz ⟨rfl, rfl⟩
                clear hb1
                go_wp2_with (at_builtin; refine wpList_append_own _ rfl _ _ 36 rfl bo 3 i0 (.int .i64 0) 1 8 Try.underlying36 hi0 hz0 hz1 hz2 rfl (by decide) _ nn xs rfl O3.out ⟨wr.heap.size, 0, none⟩ 1 1 [.int .i64 (p1 : Int)] rfl rfl NB.out (by simp [Value.oneCell']) (by simp [maxLen]; omega) (by omega) HO3.out ?_; intro v' w3 hown3 hgrow hq)
                have G3 := own_grown O3.out hgrow HO3.out
                have O4 : Hid (UAcc w3 bo v' (vs ++ [p1])) := hide (by
                  unfold UAcc
                  rw [natI_snoc, List.length_append, List.map_append, ← HXL.out.1, ← HXL.out.2]
                  exact hown3)
                have C4 : Hid (Chg (fun _ => False) w w3) := hide (by
                  have h1 : Chg (fun x => bo ≤ x) w w3 := C2.out.none.trans G3
                  exact h1.mono (fun x hx h => by have := HO.out; omega))
                clear hown3 hgrow G3 O3 NB C2
                go_wp2_with fail
                go_roundw
                case rel => exact ⟨k + 1, vs ++ [p1], by omega, by go_num, O4, by simp; omega, HN, C4⟩
                case measure => simp [intOf]; omega
              · rw [h1] at hb1
                have HN := NEXT h1
                clear NEXT MORE h1 HC0 e0
                go_wp2_with fail
                refine hb0.out.mono ?_
                rintro e wz ⟨rfl, rfl⟩
                clear hb0
                go_wp2_with fail
                refine hb1.out.mono ?_
                rintro e wz ⟨rfl, rfl⟩
                go_wp2_with fail
                go_roundw
                case rel => exact ⟨k + 1, vs, by omega, by go_num, hU, by omega, HN, hC⟩
                case measure => simp [intOf]; omega
          · have HN := KEEP (step1_no (Or.inl (by simpa using c0)))
            rw [Bool.not_eq_true, Bool.or_eq_false_iff] at c0
            obtain ⟨c1, c2⟩ := c0
            have eb : ((p0 : Int) == (a : Int)) = false := by
              have := beq_eq_false_iff_ne.1 c1
              simp; omega
            rw [c2] at hb0
            clear KEEP ST c1 c2 hb1
            go_wp2_with fail
            refine hb0.out.mono ?_
            rintro e wz ⟨rfl, rfl⟩
            clear hb0
            go_wp2_with fail
            go_roundw
            case rel => exact ⟨k + 1, vs, by omega, by go_num, hU, by omega, HN, hC⟩
            case measure => simp [intOf]; omega
        · have hkl : k = ps.length := by omega
          subst hkl
          have hS2 : Hid (rounds a ps (r + 1) [] = vs) := hide (by rw [rounds_last, hE.out, ← hS.out, stepsF_all])
          clear hS
          go_wp2_with fail
          go_roundw
          case rel => exact ⟨r + 1, vs, by omega, by go_num, hU, by omega, hS2, hC⟩
          case measure => simp [intOf]; omega
    · have hrl : r = ps.length + 1 := by omega
      have q0 : decide (r ≤ ps.length) = false := by simp; omega
      have hE2 : Hid (R = has us b) := hide (by rw [HA.out, ← hrl, hE.out])
      have hb := hide (has_acc _ us (by have : r * 1000 ≤ 1001 * 1000 := Nat.mul_le_mul_right _ (by omega); omega) b bo _ hU.out)
      have e5 := hE2.out
      subst e5
      clear hE HA hE2
      go_wp2_with fail
      refine hb.out.mono ?_
      rintro e wz ⟨rfl, rfl⟩
      go_wp2_with fail
      go_ret
      exact ⟨rfl, hC.out⟩
end Go.Proofs.Ytdcpcemihpkkaaa
