/- A text read as a path: spot.Parse. -/
import Derived.Test.YtnpcapdlgcaniaaDoorNum65
import Derived.Test.YtnpcapdlgcaniaaDoorText
import Derived.Deep.AppendLies
namespace Go.Proofs.YtnpcapdlgcaniaaDoor
open Go.RowKit
set_option linter.unusedVariables false
set_option linter.unusedSimpArgs false

theorem mapO_snoc_none {α β : Type} (f : α → Option β) (x : α) (h : f x = none) : ∀ (a b : List α), mapO f (a ++ x :: b) = none
  | [], b => by rw [List.nil_append, mapO, h]
  | y :: a, b => by
    rw [List.cons_append, mapO]
    cases f y with
    | none => rfl
    | some v => simp only; rw [mapO_snoc_none f x h a b]; rfl
theorem mapO_snoc {α β : Type} (f : α → Option β) (x : α) (v : β) (h : f x = some v) : ∀ (a : List α) (l : List β), mapO f a = some l → mapO f (a ++ [x]) = some (l ++ [v])
  | [], l, e => by cases e; rw [List.nil_append, mapO, h]; rfl
  | y :: a, l, e => by
    rw [mapO] at e
    rw [List.cons_append, mapO]
    cases hy : f y with
    | none => rw [hy] at e; cases e
    | some u =>
      rw [hy] at e
      simp only at e ⊢
      cases hm : mapO f a with
      | none => rw [hm] at e; cases e
      | some l' =>
        rw [hm] at e
        cases e
        rw [mapO_snoc f x v h a l' hm]
        rfl
theorem cut_sizes : ∀ (s : List UInt8), ∀ p ∈ cutL s, p.length ≤ s.length
  | [], p, h => by
    rw [cutL] at h
    rw [List.mem_singleton.1 h]
    exact Nat.le_refl _
  | b :: r, p, h => by
    rw [cutL] at h
    split at h
    · rcases List.mem_cons.1 h with rfl | h
      · exact Nat.zero_le _
      · exact Nat.le_succ_of_le (cut_sizes r p h)
    · cases hc : cutL r with
      | nil => exact absurd hc (cutL_ne r)
      | cons q qs =>
        rw [hc] at h
        rcases List.mem_cons.1 h with rfl | h
        · have := cut_sizes r q (by rw [hc]; exact List.mem_cons_self)
          simp only [List.length_cons]; omega
        · exact Nat.le_succ_of_le (cut_sizes r p (by rw [hc]; exact List.mem_cons_of_mem _ h))
/-- the parts of a text -/
def partsB (s : ByteArray) : List ByteArray := Lib.splitB dotB 0 (Lib.countB s dotB) s
theorem parts_cut (s : ByteArray) : (partsB s).map (·.data.toList) = cutL s.data.toList := by
  unfold partsB
  rw [Lib.splitB_data, ← split_cut]
  rfl
theorem parts_len (s : ByteArray) : (partsB s).length = Lib.countB s dotB + 1 := Lib.splitB_all dotB (by decide) 0 _ s rfl
theorem parts_le (s : ByteArray) : (partsB s).length ≤ s.size + 1 := by
  have := Lib.countB_le dotB (by decide) s.size s (Nat.le_refl _)
  rw [parts_len]
  omega
theorem parts_size (s : ByteArray) (p : ByteArray) (h : p ∈ partsB s) : p.size ≤ s.size := by
  have h1 : p.data.toList ∈ cutL s.data.toList := by rw [← parts_cut]; exact List.mem_map_of_mem h
  have h2 := cut_sizes _ _ h1
  rw [sbs_len, sbs_len] at h2
  exact h2
theorem blist_eq (a b : ByteArray) : a.toList = b.toList ↔ a.data.toList = b.data.toList := by rw [Lib.toList_data, Lib.toList_data]
/-- what the loop keeps -/
def PsInv (w wr : World) (ps : List ByteArray) (u : Value) (i : Nat) : Prop :=
  ∃ acc : List Int, mapO numL ((ps.take i).map (·.data.toList)) = some acc ∧ acc.length = i ∧ Hid (wr.ownsRow w.heap.size 3 1 u i (acc.map (.int .i64))) ∧ Hid (Chg (fun _ => False) w wr)
/-- some number lies there -/
def Max1 (w : World) : Prop := ∃ m, w.cell? ⟨1, 0, none⟩ = some (.int .i64 m)
theorem Max1.chg {w w' : World} (h : Max1 w) (g : Chg (fun _ => False) w w') : Max1 w' := by
  obtain ⟨m, hm⟩ := h
  exact ⟨m, g.cell (fun h => h) hm⟩
/-- how a parser answers -/
def ParseOut (w : World) (R : List Int × Int) (e : Ending) (w' : World) : Prop :=
  ∃ v, e = .returned (.tuple #[v, .int .i64 R.2]) ∧ Il w' (fun x => w.heap.size ≤ x ∧ x < w'.heap.size) v R.1 ∧ Chg (fun _ => False) w w'

set_option maxRecDepth 100000 in
set_option maxHeartbeats 8000000 in
theorem parse_any (s : ByteArray) (hs : s.size ≤ 100000) (w : World) (hM : Max1 w) :
    Calls Tryd.prog 38 #[.string s] w (ParseOut w (parseS s.data.toList)) := by
  obtain ⟨i0, hi0, hz0, hz1, hz2⟩ := info_parts infoI3
  have HS := hide hs
  obtain ⟨m, hm⟩ := hM
  by_cases h0 : s.data.toList = [45]
  · have e : s = ⟨#[45]⟩ := by
      have : s.data = #[45] := by rw [← Array.toList_inj]; exact h0
      exact ByteArray.ext this
    subst e
    have HX : Hid (parseS (⟨#[45]⟩ : ByteArray).data.toList = ([], 0)) := hide rfl
    clear h0 hm HS hs
    generalize parseS (⟨#[45]⟩ : ByteArray).data.toList = R at *
    go_enter Tryd.func38, Tryd.ntmps38
    go_wp2_with fail
    refine bodyPost_ret (v := .tuple #[.slice none 0 0, .int .i64 0]) (by simp [results, Tryd.results38, go_sem]) rfl ?_
    rw [HX.out]
    exact ⟨_, rfl, Il.nil _ _, Chg.refl _ _⟩
  · have e1 : ¬ s.toList = [45] := fun h => h0 (by rw [← Lib.toList_data]; exact h)
    have e0 : (s.toList == [45]) = false := by simpa using e1
    have HR : Hid (parseS s.data.toList = match mapO numL ((partsB s).map (·.data.toList)) with | none => ([], 3) | some l => if 60 < l.length then ([], 2) else (l, 0)) := hide (by
      unfold parseS
      rw [if_neg h0, parts_cut]
      cases mapO numL (cutL s.data.toList) <;> rfl)
    generalize parseS s.data.toList = R at *
    have SP := hide (Tryd.strings_Split s dotB m w (by omega) hm (by decide))
    have hps : Lib.splitB dotB 0 (Lib.countB s dotB) s = partsB s := rfl
    rw [← parts_len, hps] at SP
    have hle := parts_le s
    have HZ := hide (parts_size s)
    have hne : (partsB s).length ≠ 0 := by rw [parts_len]; omega
    clear h0 hps
    generalize partsB s = ps at *
    have hdb : dotB = ⟨#[46]⟩ := rfl
    rw [hdb] at SP
    clear hdb hm
    go_enter Tryd.func38, Tryd.ntmps38
    go_upto_block 0 with fail
    go_wp2_with fail
    refine SP.out.mono ?_
    rintro e w1 ⟨rfl, h1⟩
    have G1 : Hid (Chg (fun _ => False) w w1) := hide (by rw [h1]; exact al _ _)
    have HC : Hid (∀ i (h : i < ps.length), w1.cell? ⟨w.heap.size, i, none⟩ = some (.string ps[i])) := hide (by
      intro i h
      rw [h1, blk_cell (blk_new w _)]
      simp [h])
    have L1 : w.heap.size < w1.heap.size := by rw [h1]; simp
    clear h1 SP
    go_wp2_with fail
    clear e0 e1
    go_loopw [4, 14] (fun uv iv wr => ∃ (i : Nat), i ≤ ps.length ∧ iv = .int .i64 i ∧ Hid (PsInv w1 wr ps uv i)) (fun _ iv _ => ps.length - (intOf iv).toNat)
    case atStart => exact ⟨0, Nat.zero_le _, rfl, hide ⟨[], rfl, rfl, hide (World.ownsRow_nil _ _ _ _), hide (Chg.refl _ _)⟩⟩
    case round =>
      obtain ⟨i, hi, rfl, hIN⟩ := hrel
      obtain ⟨acc, hA, hl, hO, hC⟩ := hIN.out
      have HA := hide hA
      clear hIN hA
      by_cases hlt : i < ps.length
      · have i1 : (0 : Int) ≤ (i : Int) := by omega
        have i2 : (i : Int) < (ps.length : Int) := by omega
        have i3 : ps.length ≤ 100001 := by have := HS.out; omega
        have d0 := hC.out.cell (fun h => h) (HC.out i hlt)
        have NA := hide (num_any ps[i] (by have := HZ.out _ (List.getElem_mem hlt); have := HS.out; omega) wr)
        have HT : ps.take (i + 1) = ps.take i ++ [ps[i]] := List.take_succ_eq_append_getElem hlt
        have HD : ps = ps.take i ++ ps[i] :: ps.drop (i + 1) := by
          conv => lhs; rw [← List.take_append_drop i ps, List.drop_eq_getElem_cons hlt]
        cases hn : numL ps[i].data.toList with
        | none =>
          have HE : Hid (R = ([], 3)) := hide (by
            rw [HR.out]
            have : mapO numL (ps.map (·.data.toList)) = none := by
              rw [HD, List.map_append, List.map_cons]
              exact mapO_snoc_none _ _ hn _ _
            rw [this])
          have e2 : resN ps[i].data.toList = (0, false) := by unfold resN; rw [hn]
          rw [e2] at NA
          clear HT HD hn e2
          generalize ps[i] = x at *
          go_wp2_with fail
          refine NA.out.mono ?_
          rintro e w5 ⟨rfl, g5⟩
          have GF : Hid (Chg (fun _ => False) w w5) := hide ((G1.out.trans hC.out).trans ((Chg.of_below g5).mono (fun x hx h => by omega)))
          clear g5
          go_wp2_with fail
          refine bodyPost_ret (v := .tuple #[.slice none 0 0, .int .i64 3]) (by simp [results, Tryd.results38, go_sem]) rfl ?_
          rw [HE.out]
          exact ⟨_, rfl, Il.nil _ _, GF.out⟩
        | some n =>
          have HA2 : Hid (mapO numL ((ps.take (i + 1)).map (·.data.toList)) = some (acc ++ [n])) := hide (by
            rw [HT, List.map_append]
            exact mapO_snoc _ _ _ hn _ _ HA.out)
          have e2 : resN ps[i].data.toList = (n, true) := by unfold resN; rw [hn]
          rw [e2] at NA
          clear HT HD hn e2 HA
          generalize ps[i] = x at *
          have LN : Hid ((acc.map (Value.int .i64)).length = i * 1) := hide (by simp; omega)
          have ET : Hid ((acc ++ [n]).map (Value.int .i64) = acc.map (Value.int .i64) ++ [Value.int .i64 n]) := hide (by simp)
          have LA : Hid ((acc ++ [n]).length = i + 1) := hide (by simp; omega)
          generalize acc ++ [n] = acc2 at *
          generalize acc.map (Value.int .i64) = ROW at *
          go_wp2_with fail
          refine NA.out.mono ?_
          rintro e w5 ⟨rfl, g5b⟩
          have g5 : Chg (fun _ => False) wr w5 := (Chg.of_below g5b).mono (fun x hx h => by omega)
          clear g5b
          have GA := al w5 (.cells #[.int .i64 n] 3)
          have O9 := hide (own_chg (own_chg hO.out g5 (fun _ _ h => h)) GA (fun _ _ h => h))
          have NB := hide (World.news_of_block (cs := #[.int .i64 n]) (t := 3) (fr := (0, 0)) (heap_alloc_new w5 _))
          have G9 := hide ((hC.out.trans g5).trans GA)
          have P9 : w1.heap.size ≤ (w5.alloc (.cells #[.int .i64 n] 3)).heap.size := G9.out.size
          obtain ⟨ua, uc, hue⟩ : ∃ ua uc, u4 = Value.slice ua i uc := by
            rcases hO.out.2 with ⟨h1, h2⟩ | ⟨g', cap2, cur, h1, _⟩
            · exact ⟨_, _, by rw [h1, h2]⟩
            · exact ⟨_, _, h1⟩
          subst hue
          clear g5 GA NA hO hC
          go_wp2_with (at_builtin; refine wpList_append_lies _ rfl _ _ 28 rfl w1.heap.size 3 i0 (.int .i64 0) 1 8 Tryd.underlying28 hi0 ‹_› hz1 hz2 rfl (by decide) _ i ROW rfl O9.out ⟨w5.heap.size, 0, none⟩ 1 1 [.int .i64 n] rfl rfl NB.out (by simp [Value.oneCell']) (by omega) (by simp [maxLen]; omega) (by omega) P9 (w5.heap.size + 1) (by simp) ?_; intro gg cap2 w10 hown hgrow hgat hglt)
          have g10 := own_grown O9.out hgrow
          have F9 : Hid (PsInv w1 w10 ps (.slice (some ⟨gg, 0, none⟩) (i + 1) cap2) (i + 1)) := hide ⟨acc2, HA2.out, LA.out, hide (by rw [ET.out]; exact hown), hide (((G9.out.mono (T := fun x => w1.heap.size ≤ x) (fun x _ h => h.elim)).trans g10).mono (fun x hx e => by omega))⟩
          clear hown hgrow hgat hglt g10 O9 G9
          go_wp2_with fail
          go_roundw
          case rel => exact ⟨i + 1, by omega, by go_num, F9⟩
          case measure => simp [intOf]; omega
      · have hif : i = ps.length := by omega
        have i2 : decide (i < ps.length) = false := by simp [hlt]
        have HA2 : Hid (mapO numL (ps.map (·.data.toList)) = some acc) := hide (by
          have h := HA.out
          rw [hif, List.take_length] at h
          exact h)
        rw [HA2.out] at HR
        have HW : Hid (ParseOut w (acc, 0) (.returned (.tuple #[u4, .int .i64 0])) wr) := hide ⟨_, rfl, il_own (by rw [hl]; exact hO.out) (fun r e => by have h2 := World.ownsRow.lt hO.out r e; omega), G1.out.trans hC.out⟩
        have HW2 : Hid (ParseOut w ([], 2) (.returned (.tuple #[.slice none 0 0, .int .i64 2])) wr) := hide ⟨_, rfl, Il.nil _ _, G1.out.trans hC.out⟩
        have hRow := hO.out.2
        have hl2 : acc.length = ps.length := by omega
        obtain ⟨ua, uc, hue⟩ : ∃ ua uc, u4 = Value.slice ua ps.length uc := by
          rcases hO.out.2 with ⟨h1, h2⟩ | ⟨g', cap2, cur, h1, _⟩
          · exact absurd (hif.symm.trans h2) hne
          · exact ⟨_, _, by rw [h1, hif]⟩
        subst hue
        clear HA HA2 hRow hO hC hi
        subst hif
        by_cases h60 : 60 < ps.length
        · have h60I : (60 : Int) < (ps.length : Int) := by omega
          have HR2 : Hid (R = ([], 2)) := hide (by
            rw [HR.out]
            show (if 60 < acc.length then _ else _) = _
            rw [hl2, if_pos h60])
          clear hl HR
          go_wp2_with fail
          go_wp2_with fail
          refine bodyPost_ret (v := .tuple #[.slice none 0 0, .int .i64 2]) (by simp [results, Tryd.results38, go_sem]) rfl ?_
          rw [HR2.out]
          exact HW2.out
        · have h60I : ¬ (60 : Int) < (ps.length : Int) := by omega
          have HR2 : Hid (R = (acc, 0)) := hide (by
            rw [HR.out]
            show (if 60 < acc.length then _ else _) = _
            rw [hl2, if_neg h60])
          clear hl HR
          go_wp2_with fail
          go_wp2_with fail
          refine bodyPost_ret (v := .tuple #[.slice ua ps.length uc, .int .i64 0]) (by simp [results, Tryd.results38, go_sem]) rfl ?_
          rw [HR2.out]
          exact HW.out
end Go.Proofs.YtnpcapdlgcaniaaDoor
