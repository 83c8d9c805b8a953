/- The document's Names: all names of a table. -/
import Derived.Test.YtdoohocdaacnaaaDoorTab
import Derived.Test.YtdoohocdaacnaaaDoorClone
import Derived.Lib.SliceRun
namespace Go.Proofs.YtdoohocdaacnaaaDoor
open Go.RowKit Go.Maps
set_option linter.unusedVariables false
set_option linter.unusedSimpArgs false

def nmsV (bs : List ByteArray) (cs : List Cn) (i : Nat) : List Value := (bs ++ (cs.take i).map (·.1)).map Value.string
theorem nmsV_snoc (bs : List ByteArray) (cs : List Cn) (i : Nat) (h : i < cs.length) : nmsV bs cs (i + 1) = nmsV bs cs i ++ [.string cs[i].1] := by
  unfold nmsV
  rw [List.take_succ_eq_append_getElem h]
  simp only [List.map_append, List.append_assoc, List.map_cons, List.map_nil]
theorem nmsV_len (bs : List ByteArray) (cs : List Cn) (i : Nat) (h : i ≤ cs.length) : (nmsV bs cs i).length = bs.length + i := by
  simp [nmsV]
  omega
/-- what the loop keeps -/
def NInv (w wr : World) (P : Nat) (t : Value × Value) (bs : List ByteArray) (cs : List Cn) (l : Value) (i : Nat) : Prop :=
  Hid (wr.heap[P]? = some (.cells #[t.1, t.2] 39)) ∧ Hid (wr.ownsRow (P + 1) 9 1 l (bs.length + i) (nmsV bs cs i)) ∧ Hid (Chg (fun _ => False) w wr)

set_option maxRecDepth 100000 in
set_option maxHeartbeats 8000000 in
theorem refNames_any (bs : List ByteArray) (cs : List Cn) (hbl : bs.length ≤ 1000) (hcl : cs.length ≤ 1000) (ba : Option Addr) (bc : Nat) (ca : Option Addr) (cc : Nat) (X : Nat → Prop) (w : World) (hX : ∀ x, X x → x < w.heap.size)
    (hb : Strs w X (.slice ba bs.length bc) bs) (hc : Cns w X (.slice ca cs.length cc) cs) :
    Calls Tryd.prog 35 #[.agg #[.slice ba bs.length bc, .slice ca cs.length cc]] w fun e w' => (∃ v, e = .returned v ∧ Strs w' (fun x => w.heap.size ≤ x ∧ x < w'.heap.size) v (bs ++ cs.map (·.1))) ∧ Chg (fun _ => False) w w' := by
  obtain ⟨i0, hi0, hz0, hz1, hz2⟩ := info_parts info9
  have G1 := hide (al w (.cells #[.slice ba bs.length bc, .slice ca cs.length cc] 39))
  have BX := hide (blk_new w (.cells #[.slice ba bs.length bc, .slice ca cs.length cc] 39))
  have HX := hide hX
  have HC := hide hc
  have HB := hide hb
  obtain ⟨hbs, ra, rc, hrv, hbr⟩ := hb.chg G1.out (fun _ _ h => h)
  have HBS := hide hbs
  injection hrv with e1 e2 e3
  subst e1
  subst e3
  clear e2 hbs hb hc hX
  go_enter Tryd.func35, Tryd.ntmps35
  obtain ⟨P, hP⟩ : ∃ P, w.heap.size = P := ⟨_, rfl⟩
  have SZ := hide (al_sz w (.cells #[.slice ba bs.length bc, .slice ca cs.length cc] 39))
  rw [hP] at BX SZ
  have HP := hide hP
  cases ba with
  | none =>
    have h0 : bs = [] := by
      rcases hbr with h | ⟨g, off, hg, _⟩
      · exact h
      · cases hg
    have h1 : bs.length = 0 := by rw [h0]; rfl
    clear h0 hbr
    rw [h1] at BX G1 SZ ⊢
    go_wp2_with fail
    have START : Hid (NInv w (w.alloc (.cells #[.slice none 0 bc, .slice ca cs.length cc] 39)) P (.slice none 0 bc, .slice ca cs.length cc) bs cs (.slice none 0 0) 0) := hide ⟨BX, ⟨by rw [nmsV_len bs cs 0 (Nat.zero_le _)]; omega, Or.inl ⟨rfl, by rw [h1]⟩⟩, G1⟩
    generalize w.alloc (.cells #[.slice none 0 bc, .slice ca cs.length cc] 39) = w1 at *
    clear BX G1 HB
    go_loopw [3, 4] (fun lv iv wr => ∃ (i : Nat) (l : Value), i ≤ cs.length ∧ lv = l ∧ iv = .int .i64 i ∧ Hid (NInv w wr P (.slice none 0 bc, .slice ca cs.length cc) bs cs l i)) (fun _ iv _ => cs.length - (intOf iv).toNat)
    case atStart => exact ⟨0, _, Nat.zero_le _, rfl, rfl, START⟩
    case round =>
      clear START
      obtain ⟨i, lv, hi, e0, rfl, hIN⟩ := hrel
      have e0' := e0.symm
      clear e0
      subst e0'
      obtain ⟨hT, hA, hC⟩ := hIN.out
      clear hIN
      have xP := blk_cell hT.out 1
      simp only [List.getElem?_toArray, List.getElem?_cons_zero, List.getElem?_cons_succ] at xP
      have NL := nmsV_len bs cs i hi
      by_cases hlt : i < cs.length
      · obtain ⟨hsz, la, lc, hlv, hl⟩ := HC.out.chg hC.out (fun _ _ h => h)
        rcases hl with h0 | ⟨g, off, rfl, hg, hl⟩
        · rw [h0] at hlt; exact absurd hlt (Nat.not_lt_zero _)
        injection hlv with e1 e2 e3
        subst e1
        subst e3
        clear e2
        obtain ⟨d0, _, _⟩ := hl i hlt
        have i1 : (0 : Int) ≤ (i : Int) := by omega
        have i2 : (i : Int) < (cs.length : Int) := by omega
        have NX := hide (nmsV_snoc bs cs i hlt)
        have RL := hide (fun r (e : lv.ownBlock = some r) => World.ownsRow.lt hA.out r e)
        have HN := hide (World.news_of_block (cs := #[.string cs[i].1]) (t := 9) (fr := (0, 0)) (heap_alloc_new wr (Obj.cells #[.string cs[i].1] 9)))
        have GA := hide (al wr (.cells #[.string cs[i].1] 9))
        have A6 := hide (own_chg hA.out GA.out (fun x hx h => h))
        have P6 : P + 1 ≤ (wr.alloc (.cells #[.string cs[i].1] 9)).heap.size := by have h1 := hC.out.size; have h2 := GA.out.size; have h3 := blk_lt hT.out; omega
        clear hl hsz hg
        generalize nmsV bs cs i = L at *
        generalize cs[i].1 = nm at *
        go_wp2_with (at_builtin; refine wpList_append_own _ rfl _ _ 23 rfl (P + 1) 9 i0 (.string ⟨#[]⟩) 1 16 Tryd.underlying23 hi0 hz0 hz1 hz2 rfl (by decide) _ (bs.length + i) L rfl A6.out ⟨wr.heap.size, 0, none⟩ 1 1 [.string nm] rfl rfl HN.out (by simp [Value.oneCell']) (by simp [maxLen]; omega) (by omega) P6 ?_; intro v' w7 hown1 hgrow hiff; clear hiff)
        have GR := (Chg.refl (fun x => lv.ownBlock = some x) (wr.alloc (.cells #[.string nm] 9))).grown hgrow (fun r e => Or.inl e)
        have T7 := hide (GR.blk (fun e => by have := (RL.out P e).1; omega) (GA.out.blk (fun h => h) hT.out))
        have A7 : Hid (w7.ownsRow (P + 1) 9 1 v' (bs.length + (i + 1)) (nmsV bs cs (i + 1))) := hide (by rw [NX.out]; exact hown1)
        have C7 : Hid (Chg (fun _ => False) w w7) := hide (by
          have h1 : Chg (fun x => P < x) w w7 := (hC.out.trans GA.out).none.trans (GR.mono (fun x _ e => by have := (RL.out x e).1; omega))
          exact h1.mono (fun x hx h => by have := HP.out; omega))
        have F7 : Hid (NInv w w7 P (.slice none 0 bc, .slice (some ⟨g, off, none⟩) cs.length cc) bs cs v' (i + 1)) := hide ⟨T7, A7, C7⟩
        clear GR T7 A7 C7 hown1 hgrow hT hA hC
        go_wp2_with fail
        go_roundw
        case rel => exact ⟨i + 1, _, by omega, rfl, by go_num, F7⟩
        case measure => simp [intOf]; omega
      · have hif : i = cs.length := by omega
        have i2 : ¬ (i : Int) < (cs.length : Int) := by omega
        have F : Hid (Strs wr (fun x => P ≤ x ∧ x < wr.heap.size) lv (bs ++ cs.map (·.1)) ∧ Chg (fun _ => False) w wr) := hide ⟨strs_own (fun s hs => by
          rcases List.mem_append.1 hs with h | h
          · exact HBS.out s h
          · obtain ⟨c, hc, rfl⟩ := List.mem_map.1 h
            exact (HC.out.1 c hc).1) (by
          have h1 := hA.out
          rw [hif] at h1
          unfold nmsV at h1
          rw [List.take_length] at h1
          rw [List.length_append, List.length_map]
          exact h1) (fun r e => by have h1 := World.ownsRow.lt hA.out r e; have := HP.out; exact ⟨by omega, h1.2⟩), hC.out⟩
        clear hT hA hC
        go_wp2_with fail
        go_ret
        exact ⟨⟨_, rfl, F.out.1⟩, F.out.2⟩
  | some ad =>
    have own : (w.alloc (.cells #[.slice (some ad) bs.length bc, .slice ca cs.length cc] 39)).ownsRow (P + 1) 9 1 (.slice none 0 0) 0 [] := ⟨rfl, Or.inl ⟨rfl, rfl⟩⟩
    have N : ∀ j u, (bs.map Value.string)[j]? = some u → (w.alloc (.cells #[.slice (some ad) bs.length bc, .slice ca cs.length cc] 39)).cell? (ad.add j) = some u := by
      intro j u hu
      rcases hbr with h | ⟨g, off, hg, _, h3⟩
      · subst h; cases hu
      cases hg
      rw [add_at]
      have hj : j < bs.length := by
        have := (List.getElem?_eq_some_iff.1 hu).1
        simpa using this
      rw [List.getElem?_map, List.getElem?_eq_getElem hj] at hu
      cases hu
      exact h3 j hj
    have hlen : (bs.map Value.string).length = bs.length * 1 := by simp
    have hone : ∀ u ∈ bs.map Value.string, u.oneCell' = true := fun u hu => by obtain ⟨s, _, rfl⟩ := List.mem_map.1 hu; rfl
    have HN := hide N
    have HOWN := hide own
    have SZ2 : P + 1 ≤ (w.alloc (.cells #[.slice (some ad) bs.length bc, .slice ca cs.length cc] 39)).heap.size := by rw [SZ.out]; exact Nat.le_refl _
    clear N hbr own
    go_wp2_with (at_builtin; refine wpList_append_own _ rfl _ _ 23 rfl (P + 1) 9 i0 (.string ⟨#[]⟩) 1 16 Tryd.underlying23 hi0 hz0 hz1 hz2 rfl (by decide) _ 0 [] rfl HOWN.out ad bs.length bc (bs.map Value.string) rfl hlen HN.out hone (by simp [maxLen]; omega) (by omega) SZ2 ?_; intro v' w1 hown1 hgrow hiff; clear hiff)
    have START : Hid (NInv w w1 P (.slice (some ad) bs.length bc, .slice ca cs.length cc) bs cs v' 0) := hide (by
      have GR := (Chg.refl (fun _ => False) (w.alloc (.cells #[.slice (some ad) bs.length bc, .slice ca cs.length cc] 39))).grown hgrow (fun r e => by cases e)
      refine ⟨GR.blk (fun h => h) BX.out, ?_, G1.out.trans GR⟩
      have h1 : nmsV bs cs 0 = [] ++ bs.map Value.string := by simp [nmsV]
      rw [h1, Nat.add_zero]
      rw [Nat.zero_add] at hown1
      exact hown1)
    clear hown1 hgrow HOWN HN SZ2 hlen hone BX
    go_loopw [3, 4] (fun lv iv wr => ∃ (i : Nat) (l : Value), i ≤ cs.length ∧ lv = l ∧ iv = .int .i64 i ∧ Hid (NInv w wr P (.slice (some ad) bs.length bc, .slice ca cs.length cc) bs cs l i)) (fun _ iv _ => cs.length - (intOf iv).toNat)
    case atStart => exact ⟨0, _, Nat.zero_le _, rfl, rfl, START⟩
    case round =>
      clear START
      obtain ⟨i, lv, hi, e0, rfl, hIN⟩ := hrel
      have e0' := e0.symm
      clear e0
      subst e0'
      obtain ⟨hT, hA, hC⟩ := hIN.out
      clear hIN
      have xP := blk_cell hT.out 1
      simp only [List.getElem?_toArray, List.getElem?_cons_zero, List.getElem?_cons_succ] at xP
      have NL := nmsV_len bs cs i hi
      by_cases hlt : i < cs.length
      · obtain ⟨hsz, la, lc, hlv, hl⟩ := HC.out.chg hC.out (fun _ _ h => h)
        rcases hl with h0 | ⟨g, off, rfl, hg, hl⟩
        · rw [h0] at hlt; exact absurd hlt (Nat.not_lt_zero _)
        injection hlv with e1 e2 e3
        subst e1
        subst e3
        clear e2
        obtain ⟨d0, _, _⟩ := hl i hlt
        have i1 : (0 : Int) ≤ (i : Int) := by omega
        have i2 : (i : Int) < (cs.length : Int) := by omega
        have NX := hide (nmsV_snoc bs cs i hlt)
        have RL := hide (fun r (e : lv.ownBlock = some r) => World.ownsRow.lt hA.out r e)
        have HN := hide (World.news_of_block (cs := #[.string cs[i].1]) (t := 9) (fr := (0, 0)) (heap_alloc_new wr (Obj.cells #[.string cs[i].1] 9)))
        have GA := hide (al wr (.cells #[.string cs[i].1] 9))
        have A6 := hide (own_chg hA.out GA.out (fun x hx h => h))
        have P6 : P + 1 ≤ (wr.alloc (.cells #[.string cs[i].1] 9)).heap.size := by have h1 := hC.out.size; have h2 := GA.out.size; have h3 := blk_lt hT.out; omega
        clear hl hsz hg
        generalize nmsV bs cs i = L at *
        generalize cs[i].1 = nm at *
        go_wp2_with (at_builtin; refine wpList_append_own _ rfl _ _ 23 rfl (P + 1) 9 i0 (.string ⟨#[]⟩) 1 16 Tryd.underlying23 hi0 hz0 hz1 hz2 rfl (by decide) _ (bs.length + i) L rfl A6.out ⟨wr.heap.size, 0, none⟩ 1 1 [.string nm] rfl rfl HN.out (by simp [Value.oneCell']) (by simp [maxLen]; omega) (by omega) P6 ?_; intro v' w7 hown1 hgrow hiff; clear hiff)
        have GR := (Chg.refl (fun x => lv.ownBlock = some x) (wr.alloc (.cells #[.string nm] 9))).grown hgrow (fun r e => Or.inl e)
        have T7 := hide (GR.blk (fun e => by have := (RL.out P e).1; omega) (GA.out.blk (fun h => h) hT.out))
        have A7 : Hid (w7.ownsRow (P + 1) 9 1 v' (bs.length + (i + 1)) (nmsV bs cs (i + 1))) := hide (by rw [NX.out]; exact hown1)
        have C7 : Hid (Chg (fun _ => False) w w7) := hide (by
          have h1 : Chg (fun x => P < x) w w7 := (hC.out.trans GA.out).none.trans (GR.mono (fun x _ e => by have := (RL.out x e).1; omega))
          exact h1.mono (fun x hx h => by have := HP.out; omega))
        have F7 : Hid (NInv w w7 P (.slice (some ad) bs.length bc, .slice (some ⟨g, off, none⟩) cs.length cc) bs cs v' (i + 1)) := hide ⟨T7, A7, C7⟩
        clear GR T7 A7 C7 hown1 hgrow hT hA hC
        go_wp2_with fail
        go_roundw
        case rel => exact ⟨i + 1, _, by omega, rfl, by go_num, F7⟩
        case measure => simp [intOf]; omega
      · have hif : i = cs.length := by omega
        have i2 : ¬ (i : Int) < (cs.length : Int) := by omega
        have F : Hid (Strs wr (fun x => P ≤ x ∧ x < wr.heap.size) lv (bs ++ cs.map (·.1)) ∧ Chg (fun _ => False) w wr) := hide ⟨strs_own (fun s hs => by
          rcases List.mem_append.1 hs with h | h
          · exact HBS.out s h
          · obtain ⟨c, hc, rfl⟩ := List.mem_map.1 h
            exact (HC.out.1 c hc).1) (by
          have h1 := hA.out
          rw [hif] at h1
          unfold nmsV at h1
          rw [List.take_length] at h1
          rw [List.length_append, List.length_map]
          exact h1) (fun r e => by have h1 := World.ownsRow.lt hA.out r e; have := HP.out; exact ⟨by omega, h1.2⟩), hC.out⟩
        clear hT hA hC
        go_wp2_with fail
        go_ret
        exact ⟨⟨_, rfl, F.out.1⟩, F.out.2⟩
end Go.Proofs.YtdoohocdaacnaaaDoor
