/- Index.Types. -/
import Derived.Test.YtdoohocdaacnaaaDoorAt
import Derived.Deep.AppendLies
namespace Go.Proofs.YtdoohocdaacnaaaDoor
open Go.RowKit Go.Maps
set_option linter.unusedVariables false
set_option linter.unusedSimpArgs false

/-- the types of a row of constants -/
def tysF (cs : List Cn) : Fs := Fs.ofL (cs.map (·.2))
theorem tysF_toL (cs : List Cn) : (tysF cs).toL = cs.map (·.2) := by unfold tysF; rw [Fs.toL_ofL]
theorem tysF_len (cs : List Cn) : (tysF cs).toL.length = cs.length := by rw [tysF_toL]; simp
theorem tysF_at (cs : List Cn) (i : Nat) (h : i < (tysF cs).toL.length) (h2 : i < cs.length) : (tysF cs).toL[i] = cs[i].2 := by
  have e := tysF_toL cs
  simp only [e, List.getElem_map]
/-- what the loop keeps -/
def YInv (w wr : World) (B : Nat) (l : Value) (cs : List Cn) (i : Nat) : Prop :=
  ∃ us : List (Value × Int), Hid (TAcc wr B l us) ∧ Hid (us.length = i) ∧ Hid (Same1 wr B l (tysF cs) us) ∧ Hid (Chg (fun _ => False) w wr)

set_option maxRecDepth 100000 in
set_option maxHeartbeats 16000000 in
theorem types_any (b L : Nat) (bs : List ByteArray) (cs : List Cn) (hbl : bs.length ≤ 1000) (hcl : cs.length ≤ 1000) (w : World) (h : Xs w L b bs cs) :
    Calls Tryd.prog 28 #[.pointer (some ⟨b, 0, none⟩)] w fun e w' => (∃ v, e = .returned v ∧ Ts w' (fun x => w.heap.size ≤ x ∧ x < w'.heap.size) v (tysF cs)) ∧ Chg (fun _ => False) w w' := by
  obtain ⟨i0, hi0, hz0, hz1, hz2⟩ := info_parts info30
  have hlt := h.lt
  obtain ⟨h0, bv, cv, d, nm, h1, h2, h3, h4⟩ := h
  have x1 := blk_cell h1 1
  simp only [List.getElem?_toArray, List.getElem?_cons_zero, List.getElem?_cons_succ] at x1
  obtain ⟨hszs, ca, cc, rfl, _⟩ := id h3
  have HSZ := hide hszs
  have HC := hide h3
  obtain ⟨B, hB⟩ : ∃ B, w.heap.size = B := ⟨_, rfl⟩
  have HB := hide hB
  have HLB : Hid (∀ x, L ≤ x ∧ x < b → x < B) := hide (fun x hx => by omega)
  have TL := tysF_len cs
  clear h1 h2 h3 h4 hszs
  go_enter Tryd.func28, Tryd.ntmps28
  go_wp2_with fail
  clear hB
  go_loopw [3, 14] (fun lv iv wr => ∃ (i : Nat) (l : Value), i ≤ cs.length ∧ lv = l ∧ iv = .int .i64 i ∧ Hid (YInv w wr B l cs i)) (fun _ iv _ => cs.length - (intOf iv).toNat)
  case atStart => exact ⟨0, _, Nat.zero_le _, rfl, rfl, [], ⟨rfl, Or.inl ⟨rfl, rfl⟩⟩, rfl, Same1.nil _ _ _ _, Chg.refl _ _⟩
  case round =>
    obtain ⟨i, lv, hi, e0, rfl, hIN⟩ := hrel
    have e0' := e0.symm
    clear e0
    subst e0'
    obtain ⟨us, hA, hL, hM, hC⟩ := hIN.out
    clear hIN
    have hus : us.length ≤ 1000 := by have := hL.out; omega
    by_cases hlt2 : i < cs.length
    · have i1 : (0 : Int) ≤ (i : Int) := by omega
      have i2 : (i : Int) < (cs.length : Int) := by omega
      have hz := (HSZ.out _ (List.getElem_mem hlt2)).2
      obtain ⟨g, off, u, rfl, hg, d0, d1, ti, d2⟩ := (HC.out.chg hC.out (fun _ _ h => h)).cell hlt2
      obtain ⟨ka, kc, rfl, _⟩ := id ti
      have GA := hide (al wr (.cells #[.string cs[i].1, .slice ka cs[i].2.1.len kc, .int .i64 cs[i].2.2] 32))
      have BA := blk_new wr (.cells #[.string cs[i].1, .slice ka cs[i].2.1.len kc, .int .i64 cs[i].2.2] 32)
      have a1 := blk_cell BA 1
      have a2 := blk_cell BA 2
      simp only [List.getElem?_toArray, List.getElem?_cons_zero, List.getElem?_cons_succ] at a1 a2
      have ar := hide (arrow_any cs[i].2.1 .nil (by omega) (by decide) (.slice ka cs[i].2.1.len kc) (.slice none 0 0) cs[i].2.2 (fun x => L ≤ x ∧ x < b) (wr.alloc (.cells #[.string cs[i].1, .slice ka cs[i].2.1.len kc, .int .i64 cs[i].2.2] 32)) (fun x hx => by have := HLB.out x hx; have := HB.out; have := hC.out.size; have := GA.out.size; omega) (ti.chg GA.out (fun _ _ h => h)) (Ts.nil _ _))
      have TA := hide (tysF_at cs i (by omega) hlt2)
      have SN := hide (fun (w' : World) (v' : Value) (h : Same1 w' B lv (tysF cs) us) (hv' : Ts w' (fun x => B ≤ x ∧ x < w'.heap.size ∧ lv.ownBlock ≠ some x) v' cs[i].2.1) => h.snoc (by omega) hL.out (b := cs[i].2.2) (by rw [TA.out]) (by rw [TA.out]; exact hv'))
      have RL := hide (fun r (e : lv.ownBlock = some r) => World.ownsRow.lt (show wr.ownsRow B 30 2 lv us.length (cellsV us) from hA.out) r e)
      rw [Fs.nil_app] at ar
      have HUL := hide hL.out
      clear hg ti hz BA
      generalize cs[i] = c at *
      obtain ⟨nm, kk, kb⟩ := c
      dsimp only at d0 d1 d2 GA a1 a2 ar SN
      go_wp2_with fail
      refine ar.out.mono ?_
      rintro e w6 ⟨⟨v', rfl, t6⟩, g6⟩
      obtain ⟨va, vc, rfl, _⟩ := id t6
      have GB := al w6 (.cells #[.slice va kk.len vc, .int .i64 kb] 30)
      have G6 := hide ((GA.out.trans g6).trans GB)
      have A6 := hide (own_chg (show wr.ownsRow B 30 2 lv us.length (cellsV us) from hA.out) G6.out (fun x hx h => h))
      have M6 := hide (hM.out.chg G6.out (fun _ _ _ _ h => h))
      have T6 := hide ((t6.chg GB (fun _ _ h => h)).up (Y := fun x => B ≤ x ∧ x < (w6.alloc (.cells #[.slice va kk.len vc, .int .i64 kb] 30)).heap.size ∧ lv.ownBlock ≠ some x) (fun x hx => by
        have h1 := hx.1
        have h2 := GA.out.size
        have h3 := hC.out.size
        have h4 := HB.out
        exact ⟨by omega, Nat.lt_of_lt_of_le hx.2 GB.size, fun e => by have := (RL.out x e).2; omega⟩))
      have N6 := hide (SN.out _ _ M6.out T6.out)
      have HN := hide (World.news_of_block (cs := #[.slice va kk.len vc, .int .i64 kb]) (t := 30) (fr := (0, 0)) (heap_alloc_new w6 _))
      have P6 : B ≤ (w6.alloc (.cells #[.slice va kk.len vc, .int .i64 kb] 30)).heap.size := by have h1 := hC.out.size; have h2 := G6.out.size; have h3 := HB.out; omega
      have GC6 := hide (hC.out.trans G6.out)
      clear t6 g6 GB hA hM hC ar d0 d1 d2 a1 a2 GA M6 T6 SN
      go_wp2_with (at_builtin; refine wpList_append_lies _ rfl _ _ 28 rfl B 30 i0 (.agg #[.slice none 0 0, .int .i64 0]) 2 32 Tryd.underlying28 hi0 hz0 hz1 hz2 rfl (by decide) _ us.length (cellsV us) rfl A6.out ⟨w6.heap.size, 0, none⟩ 1 1 [.slice va kk.len vc, .int .i64 kb] rfl rfl HN.out (by simp [Value.oneCell']) (by omega) (by simp [maxLen]; omega) (by omega) P6 (w6.heap.size + 1) (by simp) ?_; intro gg cap2 w7 hown hgrow hgat hglt)
      have GR := (Chg.refl (fun x => lv.ownBlock = some x) (w6.alloc (.cells #[.slice va kk.len vc, .int .i64 kb] 30))).grown hgrow (fun r e => Or.inl e)
      have M7 := hide (N6.out.grown hgrow (u' := .slice (some ⟨gg, 0, none⟩) (us.length + 1) cap2) (by rcases hgat with h | h; exact Or.inl (by rw [show lv.ownBlock = some gg from h]; rfl); exact Or.inr (by rw [h, al_sz]; rfl)))
      have A7 := hide (tacc_snoc hown)
      have C7 : Hid (Chg (fun _ => False) w w7) := hide (by
        have h1 : Chg (fun x => B ≤ x) w w7 := GC6.out.none.trans (GR.mono (fun x _ e => (RL.out x e).1))
        exact h1.mono (fun x hx h => by have := HB.out; omega))
      have HL7 : Hid ((us ++ [((Value.slice va kk.len vc), kb)]).length = i + 1) := hide (by rw [List.length_append, HUL.out]; rfl)
      have F7 : Hid (YInv w w7 B (.slice (some ⟨gg, 0, none⟩) (us.length + 1) cap2) cs (i + 1)) := hide ⟨us ++ [(.slice va kk.len vc, kb)], A7, HL7, M7, C7⟩
      clear GR M7 A7 C7 HL7 hown hgrow hgat hglt A6 N6
      go_wp2_with fail
      go_roundw
      case rel => exact ⟨i + 1, _, by omega, rfl, by go_num, F7⟩
      case measure => simp [intOf]; omega
    · have hif : i = cs.length := by omega
      have i2 : ¬ (i : Int) < (cs.length : Int) := by omega
      have F : Hid (Ts wr (fun x => w.heap.size ≤ x ∧ x < wr.heap.size) lv (tysF cs) ∧ Chg (fun _ => False) w wr) := hide ⟨tacc_ts hA.out (fun r e => by have h1 := World.ownsRow.lt (show wr.ownsRow B 30 2 lv us.length (cellsV us) from hA.out) r e; have := HB.out; exact ⟨by omega, h1.2⟩) (by rw [hL.out, TL, hif]) (fun j h1 h2 => ⟨(hM.out.2 j h1 h2).1, (hM.out.2 j h1 h2).2.up (fun x hx => ⟨by have := HB.out; omega, hx.2.1⟩)⟩), hC.out⟩
      clear hA hM hC
      go_wp2_with fail
      go_ret
      exact ⟨⟨_, rfl, F.out.1⟩, F.out.2⟩
end Go.Proofs.YtdoohocdaacnaaaDoor
