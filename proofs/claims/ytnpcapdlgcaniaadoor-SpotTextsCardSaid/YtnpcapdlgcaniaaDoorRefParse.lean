/- A text read as a path by the reference: its Parse. -/
import Derived.Test.YtnpcapdlgcaniaaDoorParse38
import Derived.Test.YtnpcapdlgcaniaaDoorRefText
namespace Go.Proofs.YtnpcapdlgcaniaaDoor
open Go.RowKit
set_option linter.unusedVariables false
set_option linter.unusedSimpArgs false

/-- what is left to read -/
def refQ (s : List UInt8) (i : Nat) (n : Int) (d : Nat) (acc : List Int) : Option (List Int) := if i ≤ s.length then refP (s.drop i) n d acc else some acc
theorem refQ_end {s : List UInt8} {n : Int} {d : Nat} {acc : List Int} : refQ s s.length n d acc = if d = 0 then none else some (acc ++ [n]) := by
  unfold refQ
  rw [if_pos (Nat.le_refl _), List.drop_length, refP]
theorem refQ_at {s : List UInt8} {i : Nat} (h : i < s.length) {n : Int} {d : Nat} {acc : List Int} : refQ s i n d acc = if s[i] = 46 then (if d = 0 then none else refQ s (i + 1) 0 0 (acc ++ [n])) else if !(dig s[i]) || decide (d = 3) then none else refQ s (i + 1) (10 * n + s[i].toNat - 48) (d + 1) acc := by
  unfold refQ
  have h' : i + 1 ≤ s.length := h
  rw [if_pos (Nat.le_of_lt h), if_pos h', if_pos h', List.drop_eq_getElem_cons h, refP]
theorem textL_B (l : List Int) : textB l = ⟨(textL l).toArray⟩ := by
  unfold textB textL
  split <;> rfl
/-- what the loop keeps -/
def RpInv (w wr : World) (s : ByteArray) (u : Value) (acc : List Int) (i v d : Nat) : Prop :=
  refP s.data.toList 0 0 [] = refQ s.data.toList i v d acc ∧ v < 10 ^ d ∧ acc.length ≤ i ∧ (∀ n ∈ acc, 0 ≤ n ∧ n ≤ 999) ∧ Hid (wr.ownsRow w.heap.size 3 1 u acc.length (acc.map (.int .i64))) ∧ Hid (Chg (fun _ => False) w wr)

set_option maxRecDepth 100000 in
set_option maxHeartbeats 8000000 in
theorem refparse_any (s : ByteArray) (hs : s.size ≤ 300) (w : World) :
    Calls Tryd.prog 39 #[.string s] w (ParseOut w (parseR s.data.toList)) := by
  obtain ⟨i0, hi0, hz0, hz1, hz2⟩ := info_parts infoI3
  have HS := hide hs
  by_cases h0 : s.data.toList = [45]
  · have e : s = ⟨#[45]⟩ := by
      have : s.data = #[45] := by rw [← Array.toList_inj]; exact h0
      exact ByteArray.ext this
    subst e
    have HX : Hid (parseR (⟨#[45]⟩ : ByteArray).data.toList = ([], 0)) := hide rfl
    clear h0 HS hs
    generalize parseR (⟨#[45]⟩ : ByteArray).data.toList = R at *
    go_enter Tryd.func39, Tryd.ntmps39
    go_wp2_with fail
    refine bodyPost_ret (v := .tuple #[.slice none 0 0, .int .i64 0]) (by simp [results, Tryd.results39, go_sem]) rfl ?_
    rw [HX.out]
    exact ⟨_, rfl, Il.nil _ _, Chg.refl _ _⟩
  · have e1 : ¬ s.toList = [45] := fun h => h0 (by rw [← Lib.toList_data]; exact h)
    have e0 : (s.toList == [45]) = false := by simpa using e1
    have HR : Hid (parseR s.data.toList = match refP s.data.toList 0 0 [] with | none => ([], 3) | some l => if textL l ≠ s.data.toList then ([], 3) else if 60 < l.length then ([], 2) else (l, 0)) := hide (by
      unfold parseR
      rw [if_neg h0]
      cases refP s.data.toList 0 0 [] <;> rfl)
    generalize parseR s.data.toList = R at *
    have HL := sbs_len s
    clear h0 hs
    go_enter Tryd.func39, Tryd.ntmps39
    go_upto_block 0 with fail
    go_wp2_with fail
    clear e0 e1
    go_loopw [4, 5, 6, 7] (fun uv nv dv iv wr => ∃ (i v d : Nat) (acc : List Int), nv = .int .i64 v ∧ dv = .int .i64 d ∧ iv = .int .i64 i ∧ (d ≤ 3 ∧ i ≤ s.size + 1) ∧ Hid (RpInv w wr s uv acc i v d)) (fun _ _ _ iv _ => s.size + 1 - (intOf iv).toNat)
    case atStart => exact ⟨0, 0, 0, [], rfl, rfl, rfl, ⟨by omega, by omega⟩, hide ⟨by unfold refQ; rw [if_pos (Nat.zero_le _)]; rfl, by decide, Nat.le_refl _, fun n h => (by cases h), hide (World.ownsRow_nil _ _ _ _), hide (Chg.refl _ _)⟩⟩
    case round =>
      obtain ⟨i, v, d, acc, rfl, rfl, rfl, ⟨hd3, hi⟩, hIN⟩ := hrel
      obtain ⟨hq, hv, hal, hin, hO, hC⟩ := hIN.out
      have HQ0 := hide hq
      have HI := hide hin
      have hv9 : v ≤ 999 := by
        have : 10 ^ d ≤ 10 ^ 3 := Nat.pow_le_pow_right (by omega) hd3
        omega
      have HV2 : Hid (∀ n ∈ acc ++ [(v : Int)], 0 ≤ n ∧ n ≤ 999) := hide (by
        intro n hn
        rcases List.mem_append.1 hn with h | h
        · exact hin n h
        · rw [List.mem_singleton.1 h]; omega)
      clear hIN hq hin
      by_cases hend : i = s.size
      · rw [← HL] at hend
        have HQ1 := HQ0.out
        rw [hend, refQ_end] at HQ1
        rw [HL] at hend
        by_cases hd0 : d = 0
        · have HE : Hid (R = ([], 3)) := hide (by rw [HR.out, HQ1, if_pos hd0])
          clear HQ0 HQ1 HV2 HR hv
          subst hd0
          have ei : (i : Int) = (s.size : Int) := by omega
          go_wp2_with fail
          all_goals try (exfalso; omega)
          all_goals (
            refine bodyPost_ret (v := .tuple #[.slice none 0 0, .int .i64 3]) (by simp [results, Tryd.results39, go_sem]) rfl ?_
            rw [HE.out]
            exact ⟨_, rfl, Il.nil _ _, hC.out⟩)
        · have HQ : Hid (refP s.data.toList 0 0 [] = refQ s.data.toList (i + 1) ((0 : Nat) : Int) 0 (acc ++ [(v : Int)])) := hide (by
            rw [HQ1, if_neg hd0]
            unfold refQ
            rw [if_neg (by omega)])
          clear HQ0 HQ1
          have hd0I : ¬ (d : Int) = 0 := by omega
          have i3 : s.size ≤ 300 := HS.out
          have ei : (i : Int) = (s.size : Int) := by omega
          obtain ⟨ua, uc, hue⟩ : ∃ ua uc, u4 = Value.slice ua acc.length uc := by
            rcases hO.out.2 with ⟨h1, h2⟩ | ⟨g', cap2, cur, h1, _⟩
            · exact ⟨_, _, by rw [h1, h2]⟩
            · exact ⟨_, _, h1⟩
          subst hue
          have GA := al wr (.cells #[.int .i64 (v : Int)] 3)
          have O9 := hide (own_chg hO.out GA (fun _ _ h => h))
          have NB := hide (World.news_of_block (cs := #[.int .i64 (v : Int)]) (t := 3) (fr := (0, 0)) (heap_alloc_new wr _))
          have G9 := hide (hC.out.trans GA)
          have P9 : w.heap.size ≤ (wr.alloc (.cells #[.int .i64 (v : Int)] 3)).heap.size := G9.out.size
          have LN : Hid ((acc.map (Value.int .i64)).length = acc.length * 1) := hide (by simp)
          have ET : Hid ((acc ++ [(v : Int)]).map (Value.int .i64) = acc.map (Value.int .i64) ++ [Value.int .i64 (v : Int)]) := hide (by simp)
          have LA : Hid ((acc ++ [(v : Int)]).length = acc.length + 1) := hide (by simp)
          generalize acc ++ [(v : Int)] = acc2 at *
          generalize acc.map (Value.int .i64) = ROW at *
          generalize acc.length = n4 at *
          clear GA hO hC HI
          go_wp2_with (at_builtin; refine wpList_append_lies _ rfl _ _ 28 rfl w.heap.size 3 i0 (.int .i64 0) 1 8 Tryd.underlying28 hi0 ‹_› hz1 hz2 rfl (by decide) _ n4 ROW rfl O9.out ⟨wr.heap.size, 0, none⟩ 1 1 [.int .i64 (v : Int)] rfl rfl NB.out (by simp [Value.oneCell']) (by omega) (by simp [maxLen]; omega) (by omega) P9 (wr.heap.size + 1) (by simp) ?_; intro gg cap2 w10 hown hgrow hgat hglt)
          have g10 := own_grown O9.out hgrow
          have F9 : Hid (RpInv w w10 s (.slice (some ⟨gg, 0, none⟩) (n4 + 1) cap2) acc2 (i + 1) 0 0) := hide ⟨HQ.out, by omega, by rw [LA.out]; omega, HV2.out, hide (by rw [ET.out, LA.out]; exact hown), hide (((G9.out.mono (T := fun x => w.heap.size ≤ x) (fun x _ h => h.elim)).trans g10).mono (fun x hx e => by omega))⟩
          clear hown hgrow hgat hglt g10 O9 G9
          go_wp2_with fail
          all_goals try (exfalso; omega)
          go_roundw
          case rel => exact ⟨i + 1, 0, 0, acc2, rfl, rfl, by go_num, by omega, F9⟩
          case measure => simp [intOf]; omega
      · by_cases hlt : i < s.size
        · have hlt' : i < s.data.toList.length := by omega
          have HQ1 := HQ0.out
          rw [refQ_at hlt'] at HQ1
          have eg : s.data.toList[i] = s[i] := rfl
          rw [eg] at HQ1
          clear HQ0
          have hltI : (i : Int) < (s.size : Int) := by omega
          have i1 : (0 : Int) ≤ (i : Int) := by omega
          have hneI : ((i : Int) == (s.size : Int)) = false := by simp; omega
          by_cases hdot : s[i] = 46
          · have hdotI : ((s[i].toNat : Int) == 46) = true := by rw [hdot]; rfl
            rw [if_pos hdot] at HQ1
            by_cases hd0 : d = 0
            · have HE : Hid (R = ([], 3)) := hide (by rw [HR.out, HQ1, if_pos hd0])
              clear HQ1 HV2 HR hv hdot
              subst hd0
              go_wp2_with fail
              all_goals try (exfalso; omega)
              all_goals (
                refine bodyPost_ret (v := .tuple #[.slice none 0 0, .int .i64 3]) (by simp [results, Tryd.results39, go_sem]) rfl ?_
                rw [HE.out]
                exact ⟨_, rfl, Il.nil _ _, hC.out⟩)
            · have HQ : Hid (refP s.data.toList 0 0 [] = refQ s.data.toList (i + 1) ((0 : Nat) : Int) 0 (acc ++ [(v : Int)])) := hide (by
                rw [HQ1, if_neg hd0]
                rfl)
              clear HQ1 hdot
              have hd0I : ¬ (d : Int) = 0 := by omega
              have i3 : s.size ≤ 300 := HS.out
              obtain ⟨ua, uc, hue⟩ : ∃ ua uc, u4 = Value.slice ua acc.length uc := by
                rcases hO.out.2 with ⟨h1, h2⟩ | ⟨g', cap2, cur, h1, _⟩
                · exact ⟨_, _, by rw [h1, h2]⟩
                · exact ⟨_, _, h1⟩
              subst hue
              have GA := al wr (.cells #[.int .i64 (v : Int)] 3)
              have O9 := hide (own_chg hO.out GA (fun _ _ h => h))
              have NB := hide (World.news_of_block (cs := #[.int .i64 (v : Int)]) (t := 3) (fr := (0, 0)) (heap_alloc_new wr _))
              have G9 := hide (hC.out.trans GA)
              have P9 : w.heap.size ≤ (wr.alloc (.cells #[.int .i64 (v : Int)] 3)).heap.size := G9.out.size
              have LN : Hid ((acc.map (Value.int .i64)).length = acc.length * 1) := hide (by simp)
              have ET : Hid ((acc ++ [(v : Int)]).map (Value.int .i64) = acc.map (Value.int .i64) ++ [Value.int .i64 (v : Int)]) := hide (by simp)
              have LA : Hid ((acc ++ [(v : Int)]).length = acc.length + 1) := hide (by simp)
              generalize acc ++ [(v : Int)] = acc2 at *
              generalize acc.map (Value.int .i64) = ROW at *
              generalize acc.length = n4 at *
              clear GA hO hC HI
              go_wp2_with (at_builtin; refine wpList_append_lies _ rfl _ _ 28 rfl w.heap.size 3 i0 (.int .i64 0) 1 8 Tryd.underlying28 hi0 ‹_› hz1 hz2 rfl (by decide) _ n4 ROW rfl O9.out ⟨wr.heap.size, 0, none⟩ 1 1 [.int .i64 (v : Int)] rfl rfl NB.out (by simp [Value.oneCell']) (by omega) (by simp [maxLen]; omega) (by omega) P9 (wr.heap.size + 1) (by simp) ?_; intro gg cap2 w10 hown hgrow hgat hglt)
              have g10 := own_grown O9.out hgrow
              have F9 : Hid (RpInv w w10 s (.slice (some ⟨gg, 0, none⟩) (n4 + 1) cap2) acc2 (i + 1) 0 0) := hide ⟨HQ.out, by omega, by rw [LA.out]; omega, HV2.out, hide (by rw [ET.out, LA.out]; exact hown), hide (((G9.out.mono (T := fun x => w.heap.size ≤ x) (fun x _ h => h.elim)).trans g10).mono (fun x hx e => by omega))⟩
              clear hown hgrow hgat hglt g10 O9 G9
              go_wp2_with fail
              all_goals try (exfalso; omega)
              go_roundw
              case rel => exact ⟨i + 1, 0, 0, acc2, rfl, rfl, by go_num, by omega, F9⟩
              case measure => simp [intOf]; omega
          · have hdotI : ((s[i].toNat : Int) == 46) = false := by
              have : ¬ s[i].toNat = 46 := fun h => hdot (UInt8.toNat_inj.1 h)
              simp; omega
            rw [if_neg hdot] at HQ1
            by_cases hdg : dig s[i] = true
            · have h48 := (dig_iff _).1 hdg
              by_cases hd33 : d = 3
              · have HE : Hid (R = ([], 3)) := hide (by rw [HR.out, HQ1, if_pos (by simp [hd33])])
                clear HQ1 HV2 HR hv hdot hdg
                subst hd33
                go_wp2_with fail
                all_goals try (exfalso; omega)
                all_goals (
                  refine bodyPost_ret (v := .tuple #[.slice none 0 0, .int .i64 3]) (by simp [results, Tryd.results39, go_sem]) rfl ?_
                  rw [HE.out]
                  exact ⟨_, rfl, Il.nil _ _, hC.out⟩)
              · have HQ : Hid (refP s.data.toList 0 0 [] = refQ s.data.toList (i + 1) ((10 * v + (s[i].toNat - 48) : Nat) : Int) (d + 1) acc) := hide (by
                  rw [HQ1, if_neg (by simp [hdg, hd33])]
                  congr 1
                  omega)
                have hv2 : 10 * v + (s[i].toNat - 48) < 10 ^ (d + 1) := by rw [Nat.pow_succ]; omega
                have hv99 : v ≤ 99 := by
                  have : 10 ^ d ≤ 10 ^ 2 := Nat.pow_le_pow_right (by omega) (by omega)
                  omega
                have i3 : s.size ≤ 300 := HS.out
                have hd3I : ((d : Int) == 3) = false := by simp; omega
                have F9 : Hid (RpInv w wr s u4 acc (i + 1) (10 * v + (s[i].toNat - 48)) (d + 1)) := hide ⟨HQ.out, hv2, by omega, HI.out, hO, hC⟩
                clear HQ1 HQ hdot hdg HI hO hC hv2 hv HV2 HR
                go_wp2_with fail
                all_goals try (exfalso; omega)
                go_roundw
                case rel => exact ⟨i + 1, 10 * v + (s[i].toNat - 48), d + 1, acc, by go_num, by go_num, by go_num, ⟨by omega, by omega⟩, F9⟩
                case measure => simp [intOf]; omega
            · have hbad : ¬ (48 ≤ s[i].toNat ∧ s[i].toNat ≤ 57) := fun h => hdg ((dig_iff _).2 h)
              have HE : Hid (R = ([], 3)) := hide (by rw [HR.out, HQ1, if_pos (by simp [hdg])])
              clear HQ1 HV2 HR hv hdot hdg
              go_wp2_with fail
              all_goals try (exfalso; omega)
              all_goals (
                refine bodyPost_ret (v := .tuple #[.slice none 0 0, .int .i64 3]) (by simp [results, Tryd.results39, go_sem]) rfl ?_
                rw [HE.out]
                exact ⟨_, rfl, Il.nil _ _, hC.out⟩)
        · have hie : i = s.size + 1 := by omega
          have hleI : ¬ (i : Int) ≤ (s.size : Int) := by omega
          have HQ1 := HQ0.out
          unfold refQ at HQ1
          rw [if_neg (by omega)] at HQ1
          have HRR : Hid (R = if textL acc ≠ s.data.toList then ([], 3) else if 60 < acc.length then ([], 2) else (acc, 0)) := hide (by rw [HR.out, HQ1])
          have i3 : s.size ≤ 300 := HS.out
          have HIL : Hid (Il wr (fun x => w.heap.size ≤ x ∧ x < wr.heap.size) u4 acc) := hide (il_own hO.out (fun r e => World.ownsRow.lt hO.out r e))
          have RT := hide (reftext_any acc (by omega) (fun n hn => by have := HI.out n hn; unfold In64'; omega) u4 (fun x => w.heap.size ≤ x ∧ x < wr.heap.size) wr (fun x h => h.2) HIL.out)
          obtain ⟨ua, uc, hue⟩ : ∃ ua uc, u4 = Value.slice ua acc.length uc := by
            rcases hO.out.2 with ⟨h1, h2⟩ | ⟨g', cap2, cur, h1, _⟩
            · exact ⟨_, _, by rw [h1, h2]⟩
            · exact ⟨_, _, h1⟩
          subst hue
          clear HQ0 HQ1 HR HV2 HI hO hv
          by_cases htx : textL acc = s.data.toList
          · have hts : textB acc = s := by
              rw [textL_B, htx]
            rw [hts] at RT
            have hcap : acc.length ≤ 301 := by omega
            by_cases h60 : 60 < acc.length
            · have HE : Hid (R = ([], 2)) := hide (by rw [HRR.out, if_neg (by simp [htx]), if_pos h60])
              have h60I : (60 : Int) < (acc.length : Int) := by omega
              clear HRR htx hts
              generalize acc.length = n4 at *
              go_wp2_with fail
              go_wp2_with fail
              refine RT.out.mono ?_
              rintro e w5 ⟨rfl, g5⟩
              have GF := hide (hC.out.trans g5)
              clear g5
              go_wp2_with fail
              refine bodyPost_ret (v := .tuple #[.slice none 0 0, .int .i64 2]) (by simp [results, Tryd.results39, go_sem]) rfl ?_
              rw [HE.out]
              exact ⟨_, rfl, Il.nil _ _, GF.out⟩
            · have HE : Hid (R = (acc, 0)) := hide (by rw [HRR.out, if_neg (by simp [htx]), if_neg h60])
              have h60I : ¬ (60 : Int) < (acc.length : Int) := by omega
              clear HRR htx hts
              have HA : ∃ n4, n4 = acc.length := ⟨_, rfl⟩
              obtain ⟨n4, hn4⟩ := HA
              rw [← hn4] at h60I h60 RT HIL hal hcap
              rw [← hn4]
              have HN := hide hn4
              clear hn4
              go_wp2_with fail
              go_wp2_with fail
              refine RT.out.mono ?_
              rintro e w5 ⟨rfl, g5⟩
              have GF := hide (hC.out.trans g5)
              have HI5 := hide (HIL.out.chg g5 (fun _ _ h => h))
              have hsz := g5.size
              clear g5
              go_wp2_with fail
              refine bodyPost_ret (v := .tuple #[.slice ua n4 uc, .int .i64 0]) (by simp [results, Tryd.results39, go_sem]) rfl ?_
              rw [HE.out]
              exact ⟨_, rfl, HI5.out.up (fun x h => ⟨h.1, by omega⟩), GF.out⟩
          · have HE : Hid (R = ([], 3)) := hide (by rw [HRR.out, if_pos htx])
            have hne : ¬ (textB acc).toList = s.toList := by
              rw [blist_eq, textL_B]
              exact htx
            have hneb : ((textB acc).toList == s.toList) = false := by simpa using hne
            clear HRR htx HIL
            generalize textB acc = TX at *
            generalize acc.length = n4 at *
            go_wp2_with fail
            go_wp2_with fail
            refine RT.out.mono ?_
            rintro e w5 ⟨rfl, g5⟩
            have GF := hide (hC.out.trans g5)
            clear g5
            go_wp2_with fail
            refine bodyPost_ret (v := .tuple #[.slice none 0 0, .int .i64 3]) (by simp [results, Tryd.results39, go_sem]) rfl ?_
            rw [HE.out]
            exact ⟨_, rfl, Il.nil _ _, GF.out⟩
end Go.Proofs.YtnpcapdlgcaniaaDoor
