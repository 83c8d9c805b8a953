/- L06.Types, L06.OfTypes: a row of types as new memory. -/
import Derived.Test.YtnpcapdlgcaniaaDoorTo
namespace Go.Proofs.YtnpcapdlgcaniaaDoor
open Go.RowKit
set_option linter.unusedVariables false
set_option linter.unusedSimpArgs false

/-- what the loop keeps -/
def YInv (E : TypeId) (w wr : World) (B : Nat) (l : Value) (f : Fs) (i : Nat) : Prop :=
  ∃ us : List (Value × Int), Hid (TAccT E wr B l us) ∧ Hid (us.length = i) ∧ Hid (Same1 wr B l f us) ∧ Hid (Chg (fun _ => False) w wr)

set_option maxRecDepth 100000 in
set_option maxHeartbeats 16000000 in
theorem types_any (f : Fs) (hf : f.size ≤ 1000000) (v : Value) (X : Nat → Prop) (w : World) (hX : ∀ x, X x → x < w.heap.size) (hv : Ts w X v f) :
    Calls Tryd.prog 29 #[v] w fun e w' => (∃ v', e = .returned v' ∧ Ts w' (fun x => w.heap.size ≤ x ∧ x < w'.heap.size) v' f) ∧ Chg (fun _ => False) w w' := by
  obtain ⟨i0, hi0, hz0, hz1, hz2⟩ := info_parts info73
  obtain ⟨a, cap, rfl, hx⟩ := id hv
  have HV := hide hv
  have HX := hide hX
  have hfl := Fs.len_size f
  have htl := Fs.toL_len f
  have HF := hide hf
  have hln : f.len ≤ 1000001 := by omega
  obtain ⟨B, hB⟩ : ∃ B, w.heap.size = B := ⟨_, rfl⟩
  have HB := hide hB
  clear hx hv hX hf hB
  go_enter Tryd.func29, Tryd.ntmps29
  go_wp2_with fail
  go_loopw [3, 4] (fun lv iv wr => ∃ (i : Nat) (l : Value), i ≤ f.len ∧ lv = l ∧ iv = .int .i64 i ∧ Hid (YInv 73 w wr B l f i)) (fun _ iv _ => f.len - (intOf iv).toNat)
  case atStart => exact ⟨0, _, Nat.zero_le _, rfl, rfl, hide ⟨[], hide ⟨rfl, Or.inl ⟨rfl, rfl⟩⟩, hide rfl, hide (Same1.nil _ _ _ _), hide (Chg.refl _ _)⟩⟩
  case round =>
    obtain ⟨i, lv, hi, e0, rfl, hIN⟩ := hrel
    have e0' := e0.symm
    clear e0
    subst e0'
    obtain ⟨us, hA, hL, hM, hC⟩ := hIN.out
    clear hIN
    have hus : us.length ≤ 1000001 := by have := hL.out; omega
    by_cases hlt : i < f.len
    · have i1 : (0 : Int) ≤ (i : Int) := by omega
      have i2 : (i : Int) < (f.len : Int) := by omega
      have hit : i < f.toL.length := by omega
      obtain ⟨la, lc, hlv, hl⟩ := HV.out
      rcases hl with h0 | ⟨g, off, rfl, hg, hl⟩
      · subst h0; exact absurd hlt (Nat.not_lt_zero _)
      injection hlv with e1 e2 e3
      subst e1 e3
      obtain ⟨⟨vi, c0, ti⟩, c1⟩ := lies_get hl i hit
      obtain ⟨ka, kc, rfl, _⟩ := id ti
      have hks := Fs.kid_size f i hit
      have d0 := hC.out.cell (fun h => h) c0
      have d1 := hC.out.cell (fun h => h) c1
      have KI := hide (to04_any (f.toL[i]).1 (by have := HF.out; omega) (.slice ka (f.toL[i]).1.len kc) (f.toL[i]).2 X wr (fun x hx => Nat.lt_of_lt_of_le (HX.out x hx) hC.out.size) (ti.chg hC.out (fun _ _ h => h)))
      have SN := hide (fun (w' : World) (v' : Value) (h : Same1 w' B lv f us) (hv' : Ts w' (fun x => B ≤ x ∧ x < w'.heap.size ∧ lv.ownBlock ≠ some x) v' (f.toL[i]).1) => h.snoc hit hL.out rfl hv')
      have RL := hide (fun r (e : lv.ownBlock = some r) => World.ownsRow.lt (show wr.ownsRow B 73 2 lv us.length (cellsV us) from hA.out) r e)
      have HUL := hide hL.out
      clear hl c0 c1 ti hks hg
      obtain ⟨kk, hkk⟩ : ∃ kk, kk = (f.toL[i]).1 := ⟨_, rfl⟩
      rw [← hkk] at d0 KI SN
      generalize (f.toL[i]).2 = kb at *
      clear hkk
      go_wp2_with fail
      refine KI.out.mono ?_
      rintro e w6 ⟨⟨v', rfl, t6⟩, g6⟩
      obtain ⟨va, vc, rfl, _⟩ := id t6
      have GB := al w6 (.cells #[.slice va kk.len vc, .int .i64 kb] 73)
      have G6 := hide (g6.trans GB)
      have A6 := hide (own_chg (show wr.ownsRow B 73 2 lv us.length (cellsV us) from hA.out) G6.out (fun x hx h => h))
      have M6 := hide (hM.out.chg G6.out (fun _ _ _ _ h => h))
      have T6 := hide ((t6.chg GB (fun _ _ h => h)).up (Y := fun x => B ≤ x ∧ x < (w6.alloc (.cells #[.slice va kk.len vc, .int .i64 kb] 73)).heap.size ∧ lv.ownBlock ≠ some x) (fun x hx => by
        have h1 := hx.1
        have h3 := hC.out.size
        have h4 := HB.out
        exact ⟨by omega, Nat.lt_of_lt_of_le hx.2 GB.size, fun e => by have := (RL.out x e).2; omega⟩))
      have N6 := hide (SN.out _ _ M6.out T6.out)
      have HN := hide (World.news_of_block (cs := #[.slice va kk.len vc, .int .i64 kb]) (t := 73) (fr := (0, 0)) (heap_alloc_new w6 _))
      have P6 : B ≤ (w6.alloc (.cells #[.slice va kk.len vc, .int .i64 kb] 73)).heap.size := by have h1 := hC.out.size; have h2 := G6.out.size; have h3 := HB.out; omega
      have GC6 := hide (hC.out.trans G6.out)
      clear t6 g6 GB hA hM hC KI d0 d1 M6 T6 SN
      go_wp2_with (at_builtin; refine wpList_append_lies _ rfl _ _ 31 rfl B 73 i0 (.agg #[.slice none 0 0, .int .i64 0]) 2 32 Tryd.underlying31 hi0 hz0 hz1 hz2 rfl (by decide) _ us.length (cellsV us) rfl A6.out ⟨w6.heap.size, 0, none⟩ 1 1 [.slice va kk.len vc, .int .i64 kb] rfl rfl HN.out (by simp [Value.oneCell']) (by omega) (by simp [maxLen]; omega) (by omega) P6 (w6.heap.size + 1) (by simp) ?_; intro gg cap2 w7 hown hgrow hgat hglt)
      have GR := (Chg.refl (fun x => lv.ownBlock = some x) (w6.alloc (.cells #[.slice va kk.len vc, .int .i64 kb] 73))).grown hgrow (fun r e => Or.inl e)
      have M7 := hide (N6.out.grown hgrow (u' := .slice (some ⟨gg, 0, none⟩) (us.length + 1) cap2) (by rcases hgat with h | h; exact Or.inl (by rw [show lv.ownBlock = some gg from h]; rfl); exact Or.inr (by rw [h, al_sz]; rfl)))
      have A7 := hide (taccT_snoc hown)
      have C7 : Hid (Chg (fun _ => False) w w7) := hide (by
        have h1 : Chg (fun x => B ≤ x) w w7 := GC6.out.none.trans (GR.mono (fun x _ e => (RL.out x e).1))
        exact h1.mono (fun x hx h => by have := HB.out; omega))
      have HL7 : Hid ((us ++ [((Value.slice va kk.len vc), kb)]).length = i + 1) := hide (by rw [List.length_append, HUL.out]; rfl)
      have F7 : Hid (YInv 73 w w7 B (.slice (some ⟨gg, 0, none⟩) (us.length + 1) cap2) f (i + 1)) := hide ⟨us ++ [(.slice va kk.len vc, kb)], A7, HL7, M7, C7⟩
      clear GR M7 A7 C7 HL7 hown hgrow hgat hglt A6 N6
      go_wp2_with fail
      go_roundw
      case rel => exact ⟨i + 1, _, by omega, rfl, by go_num, F7⟩
      case measure => simp [intOf]; omega
    · have hif : i = f.len := by omega
      have i2 : ¬ (i : Int) < (f.len : Int) := by omega
      have F : Hid (Ts wr (fun x => w.heap.size ≤ x ∧ x < wr.heap.size) lv f ∧ Chg (fun _ => False) w wr) := hide ⟨taccT_ts hA.out (fun r e => by have h1 := World.ownsRow.lt (show wr.ownsRow B 73 2 lv us.length (cellsV us) from hA.out) r e; have := HB.out; exact ⟨by omega, h1.2⟩) (by rw [hL.out, htl, hif]) (fun j h1 h2 => ⟨(hM.out.2 j h1 h2).1, (hM.out.2 j h1 h2).2.up (fun x hx => ⟨by have := HB.out; omega, hx.2.1⟩)⟩), hC.out⟩
      clear hA hM hC
      go_wp2_with fail
      go_ret
      exact ⟨⟨_, rfl, F.out.1⟩, F.out.2⟩

set_option maxRecDepth 100000 in
set_option maxHeartbeats 16000000 in
theorem oftypes_any (f : Fs) (hf : f.size ≤ 1000000) (v : Value) (X : Nat → Prop) (w : World) (hX : ∀ x, X x → x < w.heap.size) (hv : Ts w X v f) :
    Calls Tryd.prog 45 #[v] w fun e w' => (∃ v', e = .returned v' ∧ Ts w' (fun x => w.heap.size ≤ x ∧ x < w'.heap.size) v' f) ∧ Chg (fun _ => False) w w' := by
  obtain ⟨i0, hi0, hz0, hz1, hz2⟩ := info_parts info92
  obtain ⟨a, cap, rfl, hx⟩ := id hv
  have HV := hide hv
  have HX := hide hX
  have hfl := Fs.len_size f
  have htl := Fs.toL_len f
  have HF := hide hf
  have hln : f.len ≤ 1000001 := by omega
  obtain ⟨B, hB⟩ : ∃ B, w.heap.size = B := ⟨_, rfl⟩
  have HB := hide hB
  clear hx hv hX hf hB
  go_enter Tryd.func45, Tryd.ntmps45
  go_wp2_with fail
  go_loopw [3, 4] (fun lv iv wr => ∃ (i : Nat) (l : Value), i ≤ f.len ∧ lv = l ∧ iv = .int .i64 i ∧ Hid (YInv 92 w wr B l f i)) (fun _ iv _ => f.len - (intOf iv).toNat)
  case atStart => exact ⟨0, _, Nat.zero_le _, rfl, rfl, hide ⟨[], hide ⟨rfl, Or.inl ⟨rfl, rfl⟩⟩, hide rfl, hide (Same1.nil _ _ _ _), hide (Chg.refl _ _)⟩⟩
  case round =>
    obtain ⟨i, lv, hi, e0, rfl, hIN⟩ := hrel
    have e0' := e0.symm
    clear e0
    subst e0'
    obtain ⟨us, hA, hL, hM, hC⟩ := hIN.out
    clear hIN
    have hus : us.length ≤ 1000001 := by have := hL.out; omega
    by_cases hlt : i < f.len
    · have i1 : (0 : Int) ≤ (i : Int) := by omega
      have i2 : (i : Int) < (f.len : Int) := by omega
      have hit : i < f.toL.length := by omega
      obtain ⟨la, lc, hlv, hl⟩ := HV.out
      rcases hl with h0 | ⟨g, off, rfl, hg, hl⟩
      · subst h0; exact absurd hlt (Nat.not_lt_zero _)
      injection hlv with e1 e2 e3
      subst e1 e3
      obtain ⟨⟨vi, c0, ti⟩, c1⟩ := lies_get hl i hit
      obtain ⟨ka, kc, rfl, _⟩ := id ti
      have hks := Fs.kid_size f i hit
      have d0 := hC.out.cell (fun h => h) c0
      have d1 := hC.out.cell (fun h => h) c1
      have KI := hide (of04_any (f.toL[i]).1 (by have := HF.out; omega) (.slice ka (f.toL[i]).1.len kc) (f.toL[i]).2 X wr (fun x hx => Nat.lt_of_lt_of_le (HX.out x hx) hC.out.size) (ti.chg hC.out (fun _ _ h => h)))
      have SN := hide (fun (w' : World) (v' : Value) (h : Same1 w' B lv f us) (hv' : Ts w' (fun x => B ≤ x ∧ x < w'.heap.size ∧ lv.ownBlock ≠ some x) v' (f.toL[i]).1) => h.snoc hit hL.out rfl hv')
      have RL := hide (fun r (e : lv.ownBlock = some r) => World.ownsRow.lt (show wr.ownsRow B 92 2 lv us.length (cellsV us) from hA.out) r e)
      have HUL := hide hL.out
      clear hl c0 c1 ti hks hg
      obtain ⟨kk, hkk⟩ : ∃ kk, kk = (f.toL[i]).1 := ⟨_, rfl⟩
      rw [← hkk] at d0 KI SN
      generalize (f.toL[i]).2 = kb at *
      clear hkk
      go_wp2_with fail
      refine KI.out.mono ?_
      rintro e w6 ⟨⟨v', rfl, t6⟩, g6⟩
      obtain ⟨va, vc, rfl, _⟩ := id t6
      have GB := al w6 (.cells #[.slice va kk.len vc, .int .i64 kb] 92)
      have G6 := hide (g6.trans GB)
      have A6 := hide (own_chg (show wr.ownsRow B 92 2 lv us.length (cellsV us) from hA.out) G6.out (fun x hx h => h))
      have M6 := hide (hM.out.chg G6.out (fun _ _ _ _ h => h))
      have T6 := hide ((t6.chg GB (fun _ _ h => h)).up (Y := fun x => B ≤ x ∧ x < (w6.alloc (.cells #[.slice va kk.len vc, .int .i64 kb] 92)).heap.size ∧ lv.ownBlock ≠ some x) (fun x hx => by
        have h1 := hx.1
        have h3 := hC.out.size
        have h4 := HB.out
        exact ⟨by omega, Nat.lt_of_lt_of_le hx.2 GB.size, fun e => by have := (RL.out x e).2; omega⟩))
      have N6 := hide (SN.out _ _ M6.out T6.out)
      have HN := hide (World.news_of_block (cs := #[.slice va kk.len vc, .int .i64 kb]) (t := 92) (fr := (0, 0)) (heap_alloc_new w6 _))
      have P6 : B ≤ (w6.alloc (.cells #[.slice va kk.len vc, .int .i64 kb] 92)).heap.size := by have h1 := hC.out.size; have h2 := G6.out.size; have h3 := HB.out; omega
      have GC6 := hide (hC.out.trans G6.out)
      clear t6 g6 GB hA hM hC KI d0 d1 M6 T6 SN
      go_wp2_with (at_builtin; refine wpList_append_lies _ rfl _ _ 22 rfl B 92 i0 (.agg #[.slice none 0 0, .int .i64 0]) 2 32 Tryd.underlying22 hi0 hz0 hz1 hz2 rfl (by decide) _ us.length (cellsV us) rfl A6.out ⟨w6.heap.size, 0, none⟩ 1 1 [.slice va kk.len vc, .int .i64 kb] rfl rfl HN.out (by simp [Value.oneCell']) (by omega) (by simp [maxLen]; omega) (by omega) P6 (w6.heap.size + 1) (by simp) ?_; intro gg cap2 w7 hown hgrow hgat hglt)
      have GR := (Chg.refl (fun x => lv.ownBlock = some x) (w6.alloc (.cells #[.slice va kk.len vc, .int .i64 kb] 92))).grown hgrow (fun r e => Or.inl e)
      have M7 := hide (N6.out.grown hgrow (u' := .slice (some ⟨gg, 0, none⟩) (us.length + 1) cap2) (by rcases hgat with h | h; exact Or.inl (by rw [show lv.ownBlock = some gg from h]; rfl); exact Or.inr (by rw [h, al_sz]; rfl)))
      have A7 := hide (taccT_snoc hown)
      have C7 : Hid (Chg (fun _ => False) w w7) := hide (by
        have h1 : Chg (fun x => B ≤ x) w w7 := GC6.out.none.trans (GR.mono (fun x _ e => (RL.out x e).1))
        exact h1.mono (fun x hx h => by have := HB.out; omega))
      have HL7 : Hid ((us ++ [((Value.slice va kk.len vc), kb)]).length = i + 1) := hide (by rw [List.length_append, HUL.out]; rfl)
      have F7 : Hid (YInv 92 w w7 B (.slice (some ⟨gg, 0, none⟩) (us.length + 1) cap2) f (i + 1)) := hide ⟨us ++ [(.slice va kk.len vc, kb)], A7, HL7, M7, C7⟩
      clear GR M7 A7 C7 HL7 hown hgrow hgat hglt A6 N6
      go_wp2_with fail
      go_roundw
      case rel => exact ⟨i + 1, _, by omega, rfl, by go_num, F7⟩
      case measure => simp [intOf]; omega
    · have hif : i = f.len := by omega
      have i2 : ¬ (i : Int) < (f.len : Int) := by omega
      have F : Hid (Ts wr (fun x => w.heap.size ≤ x ∧ x < wr.heap.size) lv f ∧ Chg (fun _ => False) w wr) := hide ⟨taccT_ts hA.out (fun r e => by have h1 := World.ownsRow.lt (show wr.ownsRow B 92 2 lv us.length (cellsV us) from hA.out) r e; have := HB.out; exact ⟨by omega, h1.2⟩) (by rw [hL.out, htl, hif]) (fun j h1 h2 => ⟨(hM.out.2 j h1 h2).1, (hM.out.2 j h1 h2).2.up (fun x hx => ⟨by have := HB.out; omega, hx.2.1⟩)⟩), hC.out⟩
      clear hA hM hC
      go_wp2_with fail
      go_ret
      exact ⟨⟨_, rfl, F.out.1⟩, F.out.2⟩
end Go.Proofs.YtnpcapdlgcaniaaDoor
