/- L04.To, L04.Of: a type as new memory. -/
import Derived.Test.YtnpcapdlgcaniaaDoorCopied
import Derived.Deep.AppendLies
namespace Go.Proofs.YtnpcapdlgcaniaaDoor
open Go.RowKit
set_option linter.unusedVariables false
set_option linter.unusedSimpArgs false

/-- An own row of types, of this element type. -/
def TAccT (t : TypeId) (w : World) (base : Nat) (v : Value) (us : List (Value × Int)) : Prop := w.ownsRow base t 2 v us.length (cellsV us)
theorem taccT_ts {t : TypeId} {w : World} {base : Nat} {v : Value} {us : List (Value × Int)} (h : TAccT t w base v us) {X : Nat → Prop} (hX : ∀ r, v.ownBlock = some r → X r) {f : Fs} (hl : f.toL.length = us.length)
    (he : ∀ i (h1 : i < f.toL.length) (h2 : i < us.length), (f.toL[i]).2 = (us[i]).2 ∧ Ts w X (us[i]).1 (f.toL[i]).1) : Ts w X v f := by
  have hlen := Fs.toL_len f
  obtain ⟨h1, h2⟩ := id h
  rcases h2 with ⟨rfl, h3⟩ | ⟨g, cap, cur, rfl, h3⟩
  · have : f = .nil := Fs.len_nil (by omega)
    subst this
    exact Ts.nil _ _
  · refine ⟨_, cap, by rw [← hlen, hl], Or.inr ⟨g, 0, rfl, hX g rfl, lies_mk (fun i hi => ?_)⟩⟩
    obtain ⟨a, b⟩ := cellsV_get us i (by omega)
    have hc := World.ownsRow.cells h (g := g) rfl
    have ha := hc _ _ a
    have hb := hc _ _ b
    rw [add_at, Nat.zero_add] at ha hb
    obtain ⟨e1, e2⟩ := he i hi (by omega)
    exact ⟨⟨_, by rw [Nat.zero_add]; exact ha, e2⟩, by rw [Nat.zero_add, e1]; exact hb⟩
theorem taccT_snoc {t : TypeId} {w : World} {base : Nat} {v : Value} {us : List (Value × Int)} {x : Value} {b : Int} (h : w.ownsRow base t 2 v (us.length + 1) (cellsV us ++ [x, .int .i64 b])) : TAccT t w base v (us ++ [(x, b)]) := by
  unfold TAccT
  rw [List.length_append, cellsV_app]
  exact h
theorem info92 : (Tryd.prog.info? 92).map (fun i => (i.zero, i.size, i.bytes)) = some (some (.agg #[.slice none 0 0, .int .i64 0]), 2, 32) := by kernel_rfl
/-- what the loop keeps -/
def CInvT (t : TypeId) (w1 wr : World) (O bo : Nat) (b : Int) (f : Fs) (i : Nat) : Prop :=
  ∃ (u : Value) (us : List (Value × Int)), Hid (wr.heap[O]? = some (.cells #[u, .int .i64 b] t)) ∧ Hid (TAccT t wr bo u us) ∧ Hid (us.length = i) ∧ Hid (Same1 wr bo u f us) ∧ Hid (bo ≤ wr.heap.size) ∧ Hid (Chg (fun x => x = O) w1 wr)

set_option maxRecDepth 100000 in
set_option maxHeartbeats 32000000 in
theorem to04_step (n : Nat) (hn : n ≤ 1000000) (ih : ∀ (f : Fs), f.size < n → ∀ (v : Value) (b : Int) (X : Nat → Prop) (w : World), (∀ x, X x → x < w.heap.size) → Ts w X v f →
    Calls Tryd.prog 53 #[.agg #[v, .int .i64 b]] w fun e w' => (∃ v', e = .returned (.agg #[v', .int .i64 b]) ∧ Ts w' (fun x => w.heap.size ≤ x ∧ x < w'.heap.size) v' f) ∧ Chg (fun _ => False) w w')
    (f : Fs) (hf : f.size ≤ n) (v : Value) (b : Int) (X : Nat → Prop) (w : World) (hB : ∀ x, X x → x < w.heap.size) (hv : Ts w X v f) :
    Calls Tryd.prog 53 #[.agg #[v, .int .i64 b]] w fun e w' => (∃ v', e = .returned (.agg #[v', .int .i64 b]) ∧ Ts w' (fun x => w.heap.size ≤ x ∧ x < w'.heap.size) v' f) ∧ Chg (fun _ => False) w w' := by
  obtain ⟨i0, hi0, hz0, hz1, hz2⟩ := info_parts info73
  have IH := hide ih
  obtain ⟨a, cap, rfl, hx⟩ := id hv
  have HV := hide hv
  have HB := hide hB
  have hfl := Fs.len_size f
  have htl := Fs.toL_len f
  have HF := hide hf
  have hln : f.len ≤ 1000001 := by omega
  have G1 := al w (.cells #[.slice a f.len cap, .int .i64 b] 92)
  have G2 := al (w.alloc (.cells #[.slice a f.len cap, .int .i64 b] 92)) (.cells #[.slice none 0 0, .int .i64 0] 73)
  have G3 := al ((w.alloc (.cells #[.slice a f.len cap, .int .i64 b] 92)).alloc (.cells #[.slice none 0 0, .int .i64 0] 73)) (.cells #[.slice none 0 0, .int .i64 b] 73)
  have b0 := blk_new w (.cells #[.slice a f.len cap, .int .i64 b] 92)
  have b1 := blk_new (w.alloc (.cells #[.slice a f.len cap, .int .i64 b] 92)) (.cells #[.slice none 0 0, .int .i64 0] 73)
  have b2 := blk_new ((w.alloc (.cells #[.slice a f.len cap, .int .i64 b] 92)).alloc (.cells #[.slice none 0 0, .int .i64 0] 73)) (.cells #[.slice none 0 0, .int .i64 b] 73)
  have b0' := G3.blk (fun h => h) (G2.blk (fun h => h) b0)
  have b1' := G3.blk (fun h => h) b1
  rw [al_sz, al_sz] at b2
  rw [al_sz] at b1'
  have GG := hide (G1.trans (G2.trans G3))
  have sz3 : (((w.alloc (.cells #[.slice a f.len cap, .int .i64 b] 92)).alloc (.cells #[.slice none 0 0, .int .i64 0] 73)).alloc (.cells #[.slice none 0 0, .int .i64 b] 73)).heap.size = w.heap.size + 3 := by rw [al_sz, al_sz, al_sz]
  have BX := hide b0'
  have BR := hide b1'
  have BO := hide b2
  have SZ := hide sz3
  clear hx hv ih hB hf G1 G2 G3 b0 b1 b2 b0' b1' sz3
  go_enter Tryd.func53, Tryd.ntmps53
  go_wp2_with fail
  generalize (((w.alloc (.cells #[.slice a f.len cap, .int .i64 b] 92)).alloc (.cells #[.slice none 0 0, .int .i64 0] 73)).alloc (.cells #[.slice none 0 0, .int .i64 b] 73)) = w1 at *
  have NN : Hid (w.heap.size ≤ w.heap.size) := hide (Nat.le_refl _)
  obtain ⟨P, hP⟩ : ∃ P, w.heap.size = P := ⟨_, rfl⟩
  have HP := hide hP
  rw [hP] at BX BR BO ⊢
  obtain ⟨R, hR⟩ : ∃ R, P + 1 = R := ⟨_, rfl⟩
  rw [hR] at BR BO ⊢
  obtain ⟨O, hO⟩ : ∃ O, R + 1 = O := ⟨_, rfl⟩
  rw [hO] at BO ⊢
  obtain ⟨bo, hbo⟩ : ∃ bo, w1.heap.size = bo := ⟨_, rfl⟩
  have HS := hide hbo
  have HO : Hid (O < bo ∧ R < O ∧ w.heap.size < R ∧ P < R ∧ P = w.heap.size) := hide (by have := SZ.out; refine ⟨by omega, by omega, by omega, by omega, by omega⟩)
  clear hR hO hbo SZ NN hP
  go_loopw [4] (fun iv wr => ∃ (i : Nat), i ≤ f.len ∧ iv = .int .i64 i ∧ Hid (CInvT 73 w1 wr O bo b f i)) (fun iv _ => f.len - (intOf iv).toNat)
  case atStart => exact ⟨0, Nat.zero_le _, rfl, _, [], BO, ⟨rfl, Or.inl ⟨rfl, rfl⟩⟩, rfl, Same1.nil _ _ _ _, Nat.le_of_eq HS.out.symm, Chg.refl _ _⟩
  case round =>
    clear BO
    obtain ⟨i, hi, rfl, hIN⟩ := hrel
    obtain ⟨u, us, hT, hA, hL, hM, hZ, hC⟩ := hIN.out
    clear hIN
    have BXr := hC.out.blk (by have := HO.out; omega) BX.out
    have xP := blk_cell BXr 0
    simp only [List.getElem?_toArray, List.getElem?_cons_zero, List.getElem?_cons_succ] at xP
    clear BXr
    by_cases hlt : i < f.len
    · have hit : i < f.toL.length := by omega
      obtain ⟨la, lc, hlv, hl⟩ := HV.out
      rcases hl with h0 | ⟨g, off, rfl, hg, hl⟩
      · subst h0; exact absurd hlt (Nat.not_lt_zero _)
      injection hlv with e1 e2 e3
      subst e1
      obtain ⟨⟨vi, c0, ti⟩, c1⟩ := lies_get hl i hit
      obtain ⟨ka, kc, rfl, _⟩ := id ti
      have hks := Fs.kid_size f i hit
      have WC : Chg (fun x => x = O) w wr := GG.out.none.trans hC.out
      have nO : ∀ x, X x → ¬ x = O := fun x hx e => by have := HB.out x hx; have := HO.out; omega
      have d0 := WC.cell (nO g hg) c0
      have d1 := WC.cell (nO g hg) c1
      have ti5 := hide (ti.chg WC nO)
      have KI := hide (IH.out (f.toL[i]).1 (by have := HF.out; omega) (.slice ka (f.toL[i]).1.len kc) (f.toL[i]).2 X)
      have BW := hide (fun x (hx : X x) => Nat.lt_of_lt_of_le (HB.out x hx) WC.size)
      have SN := hide (fun (w' : World) (v' : Value) (h : Same1 w' bo u f us) (hv' : Ts w' (fun x => bo ≤ x ∧ x < w'.heap.size ∧ u.ownBlock ≠ some x) v' (f.toL[i]).1) => h.snoc hit hL.out rfl hv')
      have RL := hide (fun r (e : u.ownBlock = some r) => World.ownsRow.lt (show wr.ownsRow bo 73 2 u us.length (cellsV us) from hA.out) r e)
      have i1 : (0 : Int) ≤ (i : Int) := by omega
      have i2 : (i : Int) < (f.len : Int) := by omega
      have zO := blk_cell hT.out 0
      simp only [List.getElem?_toArray, List.getElem?_cons_zero, List.getElem?_cons_succ] at zO
      have HT5 := hT
      have A5 := hide (show wr.ownsRow bo 73 2 u us.length (cellsV us) from hA.out)
      have M5 := hM
      have C5 := hC
      have Z5 := hZ
      have lO : Hid (P ≠ O ∧ g ≠ O ∧ (∀ r, u.ownBlock = some r → P ≠ r ∧ g ≠ r)) := hide (by
        have h1 := HB.out g hg
        have h2 := HO.out
        have h3 := HS.out
        refine ⟨by omega, by omega, fun r e => ?_⟩
        have := (RL.out r e).1
        exact ⟨by omega, by omega⟩)
      have hus : us.length ≤ 1000001 := by have := hL.out; omega
      have HUL := hide hL.out
      clear hl c0 c1 ti hks WC nO hT hA hL hM hZ hC
      obtain ⟨kk, hkk⟩ : ∃ kk, kk = (f.toL[i]).1 := ⟨_, rfl⟩
      rw [← hkk] at d0 ti5 KI SN
      generalize (f.toL[i]).2 = kb at *
      clear hkk
      go_wp2_with fail
      generalize wr = w5 at *
      refine wp_region_held_drew (S := (fun w' => w'.cell? ⟨P, 0, none⟩ = some (.slice (some ⟨g, off, none⟩) f.len cap) ∧ w'.cell? ⟨g, off + i * 2, none⟩ = some (.slice ka kk.len kc) ∧ w'.cell? ⟨g, off + i * 2 + 1, none⟩ = some (.int .i64 kb))) (by kernel_rfl) (by go_keep) (fun hHeld => ?_)
      first
        | (refine wpAnyH_take (i := 0) (v := undef) rfl (by kernel_rfl) (by kernel_rfl) (by kernel_rfl) (fun _ _ _ h => h) (Or.inr ⟨by rfl, rfl⟩) (by assumption) ?_)
        | (refine wpAnyH_take (i := 0) (v := ?_) rfl (by kernel_rfl) (by kernel_rfl) (by kernel_rfl) (fun _ _ _ h => h) (Or.inl ⟨by rfl, ?_⟩) (by assumption) ?_
           rotate_left
           (intro w hSw
            (try dsimp only at hSw)
            (go_simp <;> with_reducible rfl)))
      try simp only [Act.put, List.getElem_toArray, List.getElem_cons_zero, List.getElem_cons_succ, List.setIfInBounds_toArray, List.set_cons_zero, List.set_cons_succ]
      first
        | (refine wpAnyH_take (i := 2) (v := undef) rfl (by kernel_rfl) (by kernel_rfl) (by kernel_rfl) (fun _ _ _ h => h) (Or.inr ⟨by rfl, rfl⟩) (by assumption) ?_)
        | (refine wpAnyH_take (i := 2) (v := ?_) rfl (by kernel_rfl) (by kernel_rfl) (by kernel_rfl) (fun _ _ _ h => h) (Or.inl ⟨by rfl, ?_⟩) (by assumption) ?_
           rotate_left
           (intro w hSw
            (try dsimp only at hSw)
            (go_simp <;> with_reducible rfl)))
      try simp only [Act.put, List.getElem_toArray, List.getElem_cons_zero, List.getElem_cons_succ, List.setIfInBounds_toArray, List.set_cons_zero, List.set_cons_succ]
      first
        | (refine wpAnyH_take (i := 3) (v := undef) rfl (by kernel_rfl) (by kernel_rfl) (by kernel_rfl) (fun _ _ _ h => h) (Or.inr ⟨by rfl, rfl⟩) (by assumption) ?_)
        | (refine wpAnyH_take (i := 3) (v := ?_) rfl (by kernel_rfl) (by kernel_rfl) (by kernel_rfl) (fun _ _ _ h => h) (Or.inl ⟨by rfl, ?_⟩) (by assumption) ?_
           rotate_left
           (intro w hSw
            (try dsimp only at hSw)
            (go_simp <;> with_reducible rfl)))
      try simp only [Act.put, List.getElem_toArray, List.getElem_cons_zero, List.getElem_cons_succ, List.setIfInBounds_toArray, List.set_cons_zero, List.set_cons_succ]
      first
        | (refine wpAnyH_take (i := 4) (v := undef) rfl (by kernel_rfl) (by kernel_rfl) (by kernel_rfl) (fun _ _ _ h => h) (Or.inr ⟨by rfl, rfl⟩) (by assumption) ?_)
        | (refine wpAnyH_take (i := 4) (v := ?_) rfl (by kernel_rfl) (by kernel_rfl) (by kernel_rfl) (fun _ _ _ h => h) (Or.inl ⟨by rfl, ?_⟩) (by assumption) ?_
           rotate_left
           (intro w hSw
            (try dsimp only at hSw)
            (go_simp <;> with_reducible rfl)))
      try simp only [Act.put, List.getElem_toArray, List.getElem_cons_zero, List.getElem_cons_succ, List.setIfInBounds_toArray, List.set_cons_zero, List.set_cons_succ]
      first
        | (refine wpAnyH_take (i := 5) (v := undef) rfl (by kernel_rfl) (by kernel_rfl) (by kernel_rfl) (fun _ _ _ h => h) (Or.inr ⟨by rfl, rfl⟩) (by assumption) ?_)
        | (refine wpAnyH_take (i := 5) (v := ?_) rfl (by kernel_rfl) (by kernel_rfl) (by kernel_rfl) (fun _ _ _ h => h) (Or.inl ⟨by rfl, ?_⟩) (by assumption) ?_
           rotate_left
           (intro w hSw
            (try dsimp only at hSw)
            (go_simp <;> with_reducible rfl)))
      try simp only [Act.put, List.getElem_toArray, List.getElem_cons_zero, List.getElem_cons_succ, List.setIfInBounds_toArray, List.set_cons_zero, List.set_cons_succ]
      first
        | (refine wpAnyH_take (i := 6) (v := undef) rfl (by kernel_rfl) (by kernel_rfl) (by kernel_rfl) (fun _ _ _ h => h) (Or.inr ⟨by rfl, rfl⟩) (by assumption) ?_)
        | (refine wpAnyH_take (i := 6) (v := ?_) rfl (by kernel_rfl) (by kernel_rfl) (by kernel_rfl) (fun _ _ _ h => h) (Or.inl ⟨by rfl, ?_⟩) (by assumption) ?_
           rotate_left
           (intro w hSw
            (try dsimp only at hSw)
            (go_simp <;> with_reducible rfl)))
      try simp only [Act.put, List.getElem_toArray, List.getElem_cons_zero, List.getElem_cons_succ, List.setIfInBounds_toArray, List.set_cons_zero, List.set_cons_succ]
      refine wpAnyH_ready (rs := [1, 7]) (by kernel_rfl) (by simp) ?_
      refine AllReadyH.cons (i := 1) (o := _) rfl (fun K hK => ?_) ?_
      · go_simp
        refine hK.out _ _ ⟨xP, d0, d1⟩ (fun hHeld => ?_)
        clear hK K
        try simp only [Act.put, List.getElem_toArray, List.getElem_cons_zero, List.getElem_cons_succ, List.setIfInBounds_toArray, List.set_cons_zero, List.set_cons_succ]
        refine wpAnyH_ready (rs := [7]) (by kernel_rfl) (by simp) ?_
        refine AllReadyH.cons (i := 7) (o := _) rfl (fun K hK => ?_) ?_
        rotate_left
        · exact AllReadyH.nil
        go_simp
        refine (KI.out w5.drew BW.out (ti5.out.chg ((Chg.refl (fun _ => False) w5).drew) (fun _ _ h => h))).mono ?_
        rintro e w6 ⟨⟨v', rfl, t6⟩, g6'⟩
        obtain ⟨va, vc, rfl, _⟩ := id t6
        have g6 := (Chg.refl (fun _ => False) w5).drew.trans g6'
        have xP6 := g6.cell (fun h => h) xP
        have d06 := g6.cell (fun h => h) d0
        have d16 := g6.cell (fun h => h) d1
        have zO6 := g6.cell (fun h => h) zO
        have G7 := al w6 (.cells #[.slice va kk.len vc, .int .i64 kb] 73)
        have xP7 := G7.cell (fun h => h) xP6
        have d07 := G7.cell (fun h => h) d06
        have d17 := G7.cell (fun h => h) d16
        have zO7 := G7.cell (fun h => h) zO6
        have HT7 := hide (G7.blk (fun h => h) (g6.blk (fun h => h) HT5.out))
        have A7 := hide (own_chg (own_chg A5.out g6 (fun x hx h => h)) G7 (fun x hx h => h))
        have M7 := (M5.out.chg g6 (fun _ _ _ _ h => h)).chg G7 (fun _ _ _ _ h => h)
        have C7 := hide ((C5.out.trans g6.none).trans G7.none)
        have T7 := (t6.chg G7 (fun _ _ h => h)).up (Y := fun x => bo ≤ x ∧ x < (w6.alloc (.cells #[.slice va kk.len vc, .int .i64 kb] 73)).heap.size ∧ u.ownBlock ≠ some x) (fun x hx => ⟨Nat.le_trans Z5.out hx.1, Nat.lt_of_lt_of_le hx.2 G7.size, fun e => by have h1 := (RL.out x e).2; have h3 : w5.heap.size ≤ x := hx.1; omega⟩)
        have N7 := hide (SN.out _ _ M7 T7)
        have Z7 := hide (Nat.le_trans Z5.out (Nat.le_trans g6.size G7.size))
        have NB := hide (World.news_of_block (cs := #[.slice va kk.len vc, .int .i64 kb]) (t := 73) (fr := (0, 0)) (heap_alloc_new w6 _))
        clear t6 g6 g6' G7 M7 T7
        go_simp
        refine hK.out _ _ ⟨xP6, d06, d16⟩ (fun hHeld => ?_)
        clear hK K
        try simp only [Act.put, List.getElem_toArray, List.getElem_cons_zero, List.getElem_cons_succ, List.setIfInBounds_toArray, List.set_cons_zero, List.set_cons_succ]
        refine wpAnyH_ready (rs := [8]) (by kernel_rfl) (by simp) ?_
        refine AllReadyH.cons (i := 8) (o := _) rfl (fun K hK => ?_) ?_
        rotate_left
        · exact AllReadyH.nil
        go_simp
        refine hK.out _ _ ⟨xP7, d07, d17⟩ (fun hHeld => ?_)
        clear hK K
        try simp only [Act.put, List.getElem_toArray, List.getElem_cons_zero, List.getElem_cons_succ, List.setIfInBounds_toArray, List.set_cons_zero, List.set_cons_succ]
        refine wpAnyH_ready (rs := [9]) (by kernel_rfl) (by simp) ?_
        refine AllReadyH.cons (i := 9) (o := _) rfl (fun K hK => ?_) ?_
        rotate_left
        · exact AllReadyH.nil
        refine step_append_lies _ (by rfl) _ _ _ (by rfl) bo 73 i0 (.agg #[.slice none 0 0, .int .i64 0]) 2 32 Tryd.underlying31 hi0 hz0 hz1 hz2 rfl (by omega) _ us.length (cellsV us) (by rfl) A7.out ⟨w6.heap.size, 0, none⟩ 1 1 [.slice va kk.len vc, .int .i64 kb] (by rfl) (by rfl) NB.out (by simp [Value.oneCell']) (by omega) (by simp [maxLen]; omega) (by omega) Z7.out (w6.heap.size + 1) (by simp) ?_
        intro gg cap2 w8 hown hgrow hgat hglt
        have GR := (Chg.refl (fun x => u.ownBlock = some x) (w6.alloc (.cells #[.slice va kk.len vc, .int .i64 kb] 73))).grown hgrow (fun r e => Or.inl e)
        have nO : ¬ u.ownBlock = some O := fun e => by have := (RL.out O e).1; have := HO.out; omega
        have T8 := GR.blk nO HT7.out
        have zO8 := blk_cell T8 0
        have fO8 := blk_free T8 0
        simp only [List.getElem?_toArray, List.getElem?_cons_zero, List.getElem?_cons_succ] at zO8
        have xP8 := GR.cell (fun e => (lO.out.2.2 P e).1 rfl) xP7
        have d08 := GR.cell (fun e => (lO.out.2.2 g e).2 rfl) d07
        have d18 := GR.cell (fun e => (lO.out.2.2 g e).2 rfl) d17
        have M8 := N7.out.grown hgrow (u' := .slice (some ⟨gg, 0, none⟩) (us.length + 1) cap2) (by rcases hgat with h | h; exact Or.inl (by rw [h]; rfl); exact Or.inr (by rw [h, al_sz]; rfl))
        have G9 := Chg.set w8 O 0 (.slice (some ⟨gg, 0, none⟩) (us.length + 1) cap2)
        have T9 : Hid ((w8.setCell ⟨O, 0, none⟩ (.slice (some ⟨gg, 0, none⟩) (us.length + 1) cap2)).heap[O]? = some (.cells #[.slice (some ⟨gg, 0, none⟩) (us.length + 1) cap2, .int .i64 b] 73)) := hide (blk_set T8 0 (.slice (some ⟨gg, 0, none⟩) (us.length + 1) cap2))
        have A9 := hide (taccT_snoc (own_chg hown G9 (fun x hx e => by have := HO.out; omega)))
        have M9 := hide (M8.chg G9 (fun x hx _ _ e => by have := HO.out; omega))
        have Z9 := hide (Nat.le_trans Z7.out (Nat.le_trans GR.size G9.size))
        have C9 : Hid (Chg (fun x => x = O) w1 (w8.setCell ⟨O, 0, none⟩ (.slice (some ⟨gg, 0, none⟩) (us.length + 1) cap2))) := hide (by
          have h1 : Chg (fun x => x = O ∨ bo ≤ x) w1 _ := ((C7.out.mono (fun x _ h => Or.inl h)).trans (GR.mono (fun x _ h => Or.inr (RL.out x h).1))).trans (G9.mono (fun x _ h => Or.inl h))
          exact h1.mono (fun x hx h => by have := HS.out; omega))
        have xP9 := G9.cell lO.out.1 xP8
        have d09 := G9.cell lO.out.2.1 d08
        have d19 := G9.cell lO.out.2.1 d18
        have HL9 : Hid ((us ++ [((Value.slice va kk.len vc), kb)]).length = i + 1) := hide (by rw [List.length_append, HUL.out]; rfl)
        have F9 : Hid (CInvT 73 w1 (w8.setCell ⟨O, 0, none⟩ (.slice (some ⟨gg, 0, none⟩) (us.length + 1) cap2)) O bo b f (i + 1)) := hide ⟨_, us ++ [(.slice va kk.len vc, kb)], T9, A9, HL9, M9, Z9, C9⟩
        clear GR T8 M8 G9 hown hgrow hgat nO T9 A9 HL9 M9 Z9 C9
        refine hK.out _ _ ⟨xP8, d08, d18⟩ (fun hHeld => ?_)
        clear hK K
        try simp only [Act.put, List.getElem_toArray, List.getElem_cons_zero, List.getElem_cons_succ, List.setIfInBounds_toArray, List.set_cons_zero, List.set_cons_succ]
        first
          | (refine wpAnyH_take (i := 10) (v := undef) rfl (by kernel_rfl) (by kernel_rfl) (by kernel_rfl) (fun _ _ _ h => h) (Or.inr ⟨by rfl, rfl⟩) (by assumption) ?_)
          | (refine wpAnyH_take (i := 10) (v := ?_) rfl (by kernel_rfl) (by kernel_rfl) (by kernel_rfl) (fun _ _ _ h => h) (Or.inl ⟨by rfl, ?_⟩) (by assumption) ?_
             rotate_left
             (intro w hSw
              (try dsimp only at hSw)
              (go_simp <;> with_reducible rfl)))
        try simp only [Act.put, List.getElem_toArray, List.getElem_cons_zero, List.getElem_cons_succ, List.setIfInBounds_toArray, List.set_cons_zero, List.set_cons_succ]
        refine wpAnyH_ready (rs := [11]) (by kernel_rfl) (by simp) ?_
        refine AllReadyH.cons (i := 11) (o := _) rfl (fun K hK => ?_) ?_
        rotate_left
        · exact AllReadyH.nil
        go_simp
        refine hK.out _ _ ⟨xP9, d09, d19⟩ (fun hHeld => ?_)
        clear hK K
        try simp only [Act.put, List.getElem_toArray, List.getElem_cons_zero, List.getElem_cons_succ, List.setIfInBounds_toArray, List.set_cons_zero, List.set_cons_succ]
        refine wpAnyH_done (by kernel_rfl) ?_ _
        go_wp2_with fail
        go_roundw
        case rel => exact ⟨i + 1, by omega, by go_num, F9⟩
        case measure => simp [intOf]; omega
      refine AllReadyH.cons (i := 7) (o := _) rfl (fun K hK => ?_) ?_
      rotate_left
      · exact AllReadyH.nil
      go_simp
      refine (KI.out w5.drew BW.out (ti5.out.chg ((Chg.refl (fun _ => False) w5).drew) (fun _ _ h => h))).mono ?_
      rintro e w6 ⟨⟨v', rfl, t6⟩, g6'⟩
      obtain ⟨va, vc, rfl, _⟩ := id t6
      have g6 := (Chg.refl (fun _ => False) w5).drew.trans g6'
      have xP6 := g6.cell (fun h => h) xP
      have d06 := g6.cell (fun h => h) d0
      have d16 := g6.cell (fun h => h) d1
      have zO6 := g6.cell (fun h => h) zO
      have G7 := al w6 (.cells #[.slice va kk.len vc, .int .i64 kb] 73)
      have xP7 := G7.cell (fun h => h) xP6
      have d07 := G7.cell (fun h => h) d06
      have d17 := G7.cell (fun h => h) d16
      have zO7 := G7.cell (fun h => h) zO6
      have HT7 := hide (G7.blk (fun h => h) (g6.blk (fun h => h) HT5.out))
      have A7 := hide (own_chg (own_chg A5.out g6 (fun x hx h => h)) G7 (fun x hx h => h))
      have M7 := (M5.out.chg g6 (fun _ _ _ _ h => h)).chg G7 (fun _ _ _ _ h => h)
      have C7 := hide ((C5.out.trans g6.none).trans G7.none)
      have T7 := (t6.chg G7 (fun _ _ h => h)).up (Y := fun x => bo ≤ x ∧ x < (w6.alloc (.cells #[.slice va kk.len vc, .int .i64 kb] 73)).heap.size ∧ u.ownBlock ≠ some x) (fun x hx => ⟨Nat.le_trans Z5.out hx.1, Nat.lt_of_lt_of_le hx.2 G7.size, fun e => by have h1 := (RL.out x e).2; have h3 : w5.heap.size ≤ x := hx.1; omega⟩)
      have N7 := hide (SN.out _ _ M7 T7)
      have Z7 := hide (Nat.le_trans Z5.out (Nat.le_trans g6.size G7.size))
      have NB := hide (World.news_of_block (cs := #[.slice va kk.len vc, .int .i64 kb]) (t := 73) (fr := (0, 0)) (heap_alloc_new w6 _))
      clear t6 g6 g6' G7 M7 T7
      go_simp
      refine hK.out _ _ ⟨xP6, d06, d16⟩ (fun hHeld => ?_)
      clear hK K
      try simp only [Act.put, List.getElem_toArray, List.getElem_cons_zero, List.getElem_cons_succ, List.setIfInBounds_toArray, List.set_cons_zero, List.set_cons_succ]
      refine wpAnyH_ready (rs := [1, 8]) (by kernel_rfl) (by simp) ?_
      refine AllReadyH.cons (i := 1) (o := _) rfl (fun K hK => ?_) ?_
      · go_simp
        refine hK.out _ _ ⟨xP6, d06, d16⟩ (fun hHeld => ?_)
        clear hK K
        try simp only [Act.put, List.getElem_toArray, List.getElem_cons_zero, List.getElem_cons_succ, List.setIfInBounds_toArray, List.set_cons_zero, List.set_cons_succ]
        refine wpAnyH_ready (rs := [8]) (by kernel_rfl) (by simp) ?_
        refine AllReadyH.cons (i := 8) (o := _) rfl (fun K hK => ?_) ?_
        rotate_left
        · exact AllReadyH.nil
        go_simp
        refine hK.out _ _ ⟨xP7, d07, d17⟩ (fun hHeld => ?_)
        clear hK K
        try simp only [Act.put, List.getElem_toArray, List.getElem_cons_zero, List.getElem_cons_succ, List.setIfInBounds_toArray, List.set_cons_zero, List.set_cons_succ]
        refine wpAnyH_ready (rs := [9]) (by kernel_rfl) (by simp) ?_
        refine AllReadyH.cons (i := 9) (o := _) rfl (fun K hK => ?_) ?_
        rotate_left
        · exact AllReadyH.nil
        refine step_append_lies _ (by rfl) _ _ _ (by rfl) bo 73 i0 (.agg #[.slice none 0 0, .int .i64 0]) 2 32 Tryd.underlying31 hi0 hz0 hz1 hz2 rfl (by omega) _ us.length (cellsV us) (by rfl) A7.out ⟨w6.heap.size, 0, none⟩ 1 1 [.slice va kk.len vc, .int .i64 kb] (by rfl) (by rfl) NB.out (by simp [Value.oneCell']) (by omega) (by simp [maxLen]; omega) (by omega) Z7.out (w6.heap.size + 1) (by simp) ?_
        intro gg cap2 w8 hown hgrow hgat hglt
        have GR := (Chg.refl (fun x => u.ownBlock = some x) (w6.alloc (.cells #[.slice va kk.len vc, .int .i64 kb] 73))).grown hgrow (fun r e => Or.inl e)
        have nO : ¬ u.ownBlock = some O := fun e => by have := (RL.out O e).1; have := HO.out; omega
        have T8 := GR.blk nO HT7.out
        have zO8 := blk_cell T8 0
        have fO8 := blk_free T8 0
        simp only [List.getElem?_toArray, List.getElem?_cons_zero, List.getElem?_cons_succ] at zO8
        have xP8 := GR.cell (fun e => (lO.out.2.2 P e).1 rfl) xP7
        have d08 := GR.cell (fun e => (lO.out.2.2 g e).2 rfl) d07
        have d18 := GR.cell (fun e => (lO.out.2.2 g e).2 rfl) d17
        have M8 := N7.out.grown hgrow (u' := .slice (some ⟨gg, 0, none⟩) (us.length + 1) cap2) (by rcases hgat with h | h; exact Or.inl (by rw [h]; rfl); exact Or.inr (by rw [h, al_sz]; rfl))
        have G9 := Chg.set w8 O 0 (.slice (some ⟨gg, 0, none⟩) (us.length + 1) cap2)
        have T9 : Hid ((w8.setCell ⟨O, 0, none⟩ (.slice (some ⟨gg, 0, none⟩) (us.length + 1) cap2)).heap[O]? = some (.cells #[.slice (some ⟨gg, 0, none⟩) (us.length + 1) cap2, .int .i64 b] 73)) := hide (blk_set T8 0 (.slice (some ⟨gg, 0, none⟩) (us.length + 1) cap2))
        have A9 := hide (taccT_snoc (own_chg hown G9 (fun x hx e => by have := HO.out; omega)))
        have M9 := hide (M8.chg G9 (fun x hx _ _ e => by have := HO.out; omega))
        have Z9 := hide (Nat.le_trans Z7.out (Nat.le_trans GR.size G9.size))
        have C9 : Hid (Chg (fun x => x = O) w1 (w8.setCell ⟨O, 0, none⟩ (.slice (some ⟨gg, 0, none⟩) (us.length + 1) cap2))) := hide (by
          have h1 : Chg (fun x => x = O ∨ bo ≤ x) w1 _ := ((C7.out.mono (fun x _ h => Or.inl h)).trans (GR.mono (fun x _ h => Or.inr (RL.out x h).1))).trans (G9.mono (fun x _ h => Or.inl h))
          exact h1.mono (fun x hx h => by have := HS.out; omega))
        have xP9 := G9.cell lO.out.1 xP8
        have d09 := G9.cell lO.out.2.1 d08
        have d19 := G9.cell lO.out.2.1 d18
        have HL9 : Hid ((us ++ [((Value.slice va kk.len vc), kb)]).length = i + 1) := hide (by rw [List.length_append, HUL.out]; rfl)
        have F9 : Hid (CInvT 73 w1 (w8.setCell ⟨O, 0, none⟩ (.slice (some ⟨gg, 0, none⟩) (us.length + 1) cap2)) O bo b f (i + 1)) := hide ⟨_, us ++ [(.slice va kk.len vc, kb)], T9, A9, HL9, M9, Z9, C9⟩
        clear GR T8 M8 G9 hown hgrow hgat nO T9 A9 HL9 M9 Z9 C9
        refine hK.out _ _ ⟨xP8, d08, d18⟩ (fun hHeld => ?_)
        clear hK K
        try simp only [Act.put, List.getElem_toArray, List.getElem_cons_zero, List.getElem_cons_succ, List.setIfInBounds_toArray, List.set_cons_zero, List.set_cons_succ]
        first
          | (refine wpAnyH_take (i := 10) (v := undef) rfl (by kernel_rfl) (by kernel_rfl) (by kernel_rfl) (fun _ _ _ h => h) (Or.inr ⟨by rfl, rfl⟩) (by assumption) ?_)
          | (refine wpAnyH_take (i := 10) (v := ?_) rfl (by kernel_rfl) (by kernel_rfl) (by kernel_rfl) (fun _ _ _ h => h) (Or.inl ⟨by rfl, ?_⟩) (by assumption) ?_
             rotate_left
             (intro w hSw
              (try dsimp only at hSw)
              (go_simp <;> with_reducible rfl)))
        try simp only [Act.put, List.getElem_toArray, List.getElem_cons_zero, List.getElem_cons_succ, List.setIfInBounds_toArray, List.set_cons_zero, List.set_cons_succ]
        refine wpAnyH_ready (rs := [11]) (by kernel_rfl) (by simp) ?_
        refine AllReadyH.cons (i := 11) (o := _) rfl (fun K hK => ?_) ?_
        rotate_left
        · exact AllReadyH.nil
        go_simp
        refine hK.out _ _ ⟨xP9, d09, d19⟩ (fun hHeld => ?_)
        clear hK K
        try simp only [Act.put, List.getElem_toArray, List.getElem_cons_zero, List.getElem_cons_succ, List.setIfInBounds_toArray, List.set_cons_zero, List.set_cons_succ]
        refine wpAnyH_done (by kernel_rfl) ?_ _
        go_wp2_with fail
        go_roundw
        case rel => exact ⟨i + 1, by omega, by go_num, F9⟩
        case measure => simp [intOf]; omega
      refine AllReadyH.cons (i := 8) (o := _) rfl (fun K hK => ?_) ?_
      rotate_left
      · exact AllReadyH.nil
      go_simp
      refine hK.out _ _ ⟨xP7, d07, d17⟩ (fun hHeld => ?_)
      clear hK K
      try simp only [Act.put, List.getElem_toArray, List.getElem_cons_zero, List.getElem_cons_succ, List.setIfInBounds_toArray, List.set_cons_zero, List.set_cons_succ]
      refine wpAnyH_ready (rs := [1]) (by kernel_rfl) (by simp) ?_
      refine AllReadyH.cons (i := 1) (o := _) rfl (fun K hK => ?_) ?_
      rotate_left
      · exact AllReadyH.nil
      go_simp
      refine hK.out _ _ ⟨xP7, d07, d17⟩ (fun hHeld => ?_)
      clear hK K
      try simp only [Act.put, List.getElem_toArray, List.getElem_cons_zero, List.getElem_cons_succ, List.setIfInBounds_toArray, List.set_cons_zero, List.set_cons_succ]
      refine wpAnyH_ready (rs := [9]) (by kernel_rfl) (by simp) ?_
      refine AllReadyH.cons (i := 9) (o := _) rfl (fun K hK => ?_) ?_
      rotate_left
      · exact AllReadyH.nil
      refine step_append_lies _ (by rfl) _ _ _ (by rfl) bo 73 i0 (.agg #[.slice none 0 0, .int .i64 0]) 2 32 Tryd.underlying31 hi0 hz0 hz1 hz2 rfl (by omega) _ us.length (cellsV us) (by rfl) A7.out ⟨w6.heap.size, 0, none⟩ 1 1 [.slice va kk.len vc, .int .i64 kb] (by rfl) (by rfl) NB.out (by simp [Value.oneCell']) (by omega) (by simp [maxLen]; omega) (by omega) Z7.out (w6.heap.size + 1) (by simp) ?_
      intro gg cap2 w8 hown hgrow hgat hglt
      have GR := (Chg.refl (fun x => u.ownBlock = some x) (w6.alloc (.cells #[.slice va kk.len vc, .int .i64 kb] 73))).grown hgrow (fun r e => Or.inl e)
      have nO : ¬ u.ownBlock = some O := fun e => by have := (RL.out O e).1; have := HO.out; omega
      have T8 := GR.blk nO HT7.out
      have zO8 := blk_cell T8 0
      have fO8 := blk_free T8 0
      simp only [List.getElem?_toArray, List.getElem?_cons_zero, List.getElem?_cons_succ] at zO8
      have xP8 := GR.cell (fun e => (lO.out.2.2 P e).1 rfl) xP7
      have d08 := GR.cell (fun e => (lO.out.2.2 g e).2 rfl) d07
      have d18 := GR.cell (fun e => (lO.out.2.2 g e).2 rfl) d17
      have M8 := N7.out.grown hgrow (u' := .slice (some ⟨gg, 0, none⟩) (us.length + 1) cap2) (by rcases hgat with h | h; exact Or.inl (by rw [h]; rfl); exact Or.inr (by rw [h, al_sz]; rfl))
      have G9 := Chg.set w8 O 0 (.slice (some ⟨gg, 0, none⟩) (us.length + 1) cap2)
      have T9 : Hid ((w8.setCell ⟨O, 0, none⟩ (.slice (some ⟨gg, 0, none⟩) (us.length + 1) cap2)).heap[O]? = some (.cells #[.slice (some ⟨gg, 0, none⟩) (us.length + 1) cap2, .int .i64 b] 73)) := hide (blk_set T8 0 (.slice (some ⟨gg, 0, none⟩) (us.length + 1) cap2))
      have A9 := hide (taccT_snoc (own_chg hown G9 (fun x hx e => by have := HO.out; omega)))
      have M9 := hide (M8.chg G9 (fun x hx _ _ e => by have := HO.out; omega))
      have Z9 := hide (Nat.le_trans Z7.out (Nat.le_trans GR.size G9.size))
      have C9 : Hid (Chg (fun x => x = O) w1 (w8.setCell ⟨O, 0, none⟩ (.slice (some ⟨gg, 0, none⟩) (us.length + 1) cap2))) := hide (by
        have h1 : Chg (fun x => x = O ∨ bo ≤ x) w1 _ := ((C7.out.mono (fun x _ h => Or.inl h)).trans (GR.mono (fun x _ h => Or.inr (RL.out x h).1))).trans (G9.mono (fun x _ h => Or.inl h))
        exact h1.mono (fun x hx h => by have := HS.out; omega))
      have xP9 := G9.cell lO.out.1 xP8
      have d09 := G9.cell lO.out.2.1 d08
      have d19 := G9.cell lO.out.2.1 d18
      have HL9 : Hid ((us ++ [((Value.slice va kk.len vc), kb)]).length = i + 1) := hide (by rw [List.length_append, HUL.out]; rfl)
      have F9 : Hid (CInvT 73 w1 (w8.setCell ⟨O, 0, none⟩ (.slice (some ⟨gg, 0, none⟩) (us.length + 1) cap2)) O bo b f (i + 1)) := hide ⟨_, us ++ [(.slice va kk.len vc, kb)], T9, A9, HL9, M9, Z9, C9⟩
      clear GR T8 M8 G9 hown hgrow hgat nO T9 A9 HL9 M9 Z9 C9
      refine hK.out _ _ ⟨xP8, d08, d18⟩ (fun hHeld => ?_)
      clear hK K
      try simp only [Act.put, List.getElem_toArray, List.getElem_cons_zero, List.getElem_cons_succ, List.setIfInBounds_toArray, List.set_cons_zero, List.set_cons_succ]
      first
        | (refine wpAnyH_take (i := 10) (v := undef) rfl (by kernel_rfl) (by kernel_rfl) (by kernel_rfl) (fun _ _ _ h => h) (Or.inr ⟨by rfl, rfl⟩) (by assumption) ?_)
        | (refine wpAnyH_take (i := 10) (v := ?_) rfl (by kernel_rfl) (by kernel_rfl) (by kernel_rfl) (fun _ _ _ h => h) (Or.inl ⟨by rfl, ?_⟩) (by assumption) ?_
           rotate_left
           (intro w hSw
            (try dsimp only at hSw)
            (go_simp <;> with_reducible rfl)))
      try simp only [Act.put, List.getElem_toArray, List.getElem_cons_zero, List.getElem_cons_succ, List.setIfInBounds_toArray, List.set_cons_zero, List.set_cons_succ]
      refine wpAnyH_ready (rs := [11]) (by kernel_rfl) (by simp) ?_
      refine AllReadyH.cons (i := 11) (o := _) rfl (fun K hK => ?_) ?_
      rotate_left
      · exact AllReadyH.nil
      go_simp
      refine hK.out _ _ ⟨xP9, d09, d19⟩ (fun hHeld => ?_)
      clear hK K
      try simp only [Act.put, List.getElem_toArray, List.getElem_cons_zero, List.getElem_cons_succ, List.setIfInBounds_toArray, List.set_cons_zero, List.set_cons_succ]
      refine wpAnyH_done (by kernel_rfl) ?_ _
      go_wp2_with fail
      go_roundw
      case rel => exact ⟨i + 1, by omega, by go_num, F9⟩
      case measure => simp [intOf]; omega
    · have hif : i = f.len := by omega
      have BRr := hC.out.blk (by have := HO.out; omega) BR.out
      have zO := blk_cell hT.out 0
      have zO1 := blk_cell hT.out 1
      have cR0 := blk_cell BRr 0
      have cR1 := blk_cell BRr 1
      have fR0 := blk_free BRr 0
      have fR1 := blk_free BRr 1
      simp only [List.getElem?_toArray, List.getElem?_cons_zero, List.getElem?_cons_succ] at zO zO1 cR0 cR1
      obtain ⟨ua, uc, hue⟩ : ∃ ua uc, u = .slice ua us.length uc := by
        rcases (show wr.ownsRow bo 73 2 u us.length (cellsV us) from hA.out).2 with ⟨h1, h2⟩ | ⟨g, cap2, cur, h1, _⟩
        · exact ⟨_, _, by rw [h1, h2]⟩
        · exact ⟨_, _, h1⟩
      have T1 := blk_set BRr 0 u
      have T2 := blk_set T1 1 (.int .i64 b)
      have S1 := Chg.set wr R 0 u
      have S2 := Chg.set (wr.setCell ⟨R, 0, none⟩ u) R 1 (.int .i64 b)
      have SS := S1.trans S2
      have AF := own_chg (show wr.ownsRow bo 73 2 u us.length (cellsV us) from hA.out) SS (fun x hx e => by have := HO.out; omega)
      have MF := hM.out.chg SS (fun x hx _ _ e => by have := HO.out; omega)
      have CF : Chg (fun _ => False) w ((wr.setCell ⟨R, 0, none⟩ u).setCell ⟨R, 1, none⟩ (.int .i64 b)) := by
        have h1 : Chg (fun x => x = O ∨ x = R) w _ := (GG.out.none.trans (hC.out.mono (fun x _ h => Or.inl h))).trans (SS.mono (fun x _ h => Or.inr h))
        exact h1.mono (fun x hx h => by have := HO.out; omega)
      have F : Hid (Ts ((wr.setCell ⟨R, 0, none⟩ u).setCell ⟨R, 1, none⟩ (.int .i64 b)) (fun x => w.heap.size ≤ x ∧ x < ((wr.setCell ⟨R, 0, none⟩ u).setCell ⟨R, 1, none⟩ (.int .i64 b)).heap.size) u f ∧ Chg (fun _ => False) w ((wr.setCell ⟨R, 0, none⟩ u).setCell ⟨R, 1, none⟩ (.int .i64 b))) := hide ⟨taccT_ts AF (fun r e => by have h1 := World.ownsRow.lt AF r e; have := HO.out; exact ⟨by omega, h1.2⟩) (by rw [hL.out, htl, hif]) (fun j h1 h2 => ⟨(MF.2 j h1 h2).1, (MF.2 j h1 h2).2.up (fun x hx => ⟨by have := HO.out; omega, hx.2.1⟩)⟩), CF⟩
      have z0 : ((wr.setCell ⟨R, 0, none⟩ u).setCell ⟨R, 1, none⟩ (.int .i64 b)).cell? ⟨R, 0, none⟩ = some u := blk_cell T2 0
      have z1 : ((wr.setCell ⟨R, 0, none⟩ u).setCell ⟨R, 1, none⟩ (.int .i64 b)).cell? ⟨R, 1, none⟩ = some (.int .i64 b) := blk_cell T2 1
      subst hue
      subst hif
      clear T1 T2 S1 S2 SS AF MF CF hT hA hL hM hZ hC BRr
      go_wp2_with fail
      generalize hwf : ((wr.setCell ⟨R, 0, none⟩ (.slice ua us.length uc)).setCell ⟨R, 1, none⟩ (.int .i64 b)) = wF at *
      refine bodyPost_ret (fn := Tryd.f53) (v := .agg #[.slice ua us.length uc, .int .i64 b]) (by simp [results, Tryd.results53, go_sem, z0, z1]) rfl ?_
      exact ⟨⟨_, rfl, F.out.1⟩, F.out.2⟩

theorem to04_all (n : Nat) (hn : n ≤ 1000000) : ∀ (f : Fs), f.size ≤ n → ∀ (v : Value) (b : Int) (X : Nat → Prop) (w : World), (∀ x, X x → x < w.heap.size) → Ts w X v f →
    Calls Tryd.prog 53 #[.agg #[v, .int .i64 b]] w fun e w' => (∃ v', e = .returned (.agg #[v', .int .i64 b]) ∧ Ts w' (fun x => w.heap.size ≤ x ∧ x < w'.heap.size) v' f) ∧ Chg (fun _ => False) w w' := by
  induction n with
  | zero => exact fun f hf => to04_step 0 hn (fun g hg => absurd hg (Nat.not_lt_zero _)) f hf
  | succ n ih => exact fun f hf => to04_step (n + 1) hn (fun g hg => ih (by omega) g (by omega)) f hf

theorem to04_any (f : Fs) (hf : f.size ≤ 1000000) (v : Value) (b : Int) (X : Nat → Prop) (w : World) (hX : ∀ x, X x → x < w.heap.size) (hv : Ts w X v f) :
    Calls Tryd.prog 53 #[.agg #[v, .int .i64 b]] w fun e w' => (∃ v', e = .returned (.agg #[v', .int .i64 b]) ∧ Ts w' (fun x => w.heap.size ≤ x ∧ x < w'.heap.size) v' f) ∧ Chg (fun _ => False) w w' :=
  to04_all f.size hf f (Nat.le_refl _) v b X w hX hv

set_option maxRecDepth 100000 in
set_option maxHeartbeats 32000000 in
theorem of04_step (n : Nat) (hn : n ≤ 1000000) (ih : ∀ (f : Fs), f.size < n → ∀ (v : Value) (b : Int) (X : Nat → Prop) (w : World), (∀ x, X x → x < w.heap.size) → Ts w X v f →
    Calls Tryd.prog 70 #[.agg #[v, .int .i64 b]] w fun e w' => (∃ v', e = .returned (.agg #[v', .int .i64 b]) ∧ Ts w' (fun x => w.heap.size ≤ x ∧ x < w'.heap.size) v' f) ∧ Chg (fun _ => False) w w')
    (f : Fs) (hf : f.size ≤ n) (v : Value) (b : Int) (X : Nat → Prop) (w : World) (hB : ∀ x, X x → x < w.heap.size) (hv : Ts w X v f) :
    Calls Tryd.prog 70 #[.agg #[v, .int .i64 b]] w fun e w' => (∃ v', e = .returned (.agg #[v', .int .i64 b]) ∧ Ts w' (fun x => w.heap.size ≤ x ∧ x < w'.heap.size) v' f) ∧ Chg (fun _ => False) w w' := by
  obtain ⟨i0, hi0, hz0, hz1, hz2⟩ := info_parts info92
  have IH := hide ih
  obtain ⟨a, cap, rfl, hx⟩ := id hv
  have HV := hide hv
  have HB := hide hB
  have hfl := Fs.len_size f
  have htl := Fs.toL_len f
  have HF := hide hf
  have hln : f.len ≤ 1000001 := by omega
  have G1 := al w (.cells #[.slice a f.len cap, .int .i64 b] 73)
  have G2 := al (w.alloc (.cells #[.slice a f.len cap, .int .i64 b] 73)) (.cells #[.slice none 0 0, .int .i64 0] 92)
  have G3 := al ((w.alloc (.cells #[.slice a f.len cap, .int .i64 b] 73)).alloc (.cells #[.slice none 0 0, .int .i64 0] 92)) (.cells #[.slice none 0 0, .int .i64 b] 92)
  have b0 := blk_new w (.cells #[.slice a f.len cap, .int .i64 b] 73)
  have b1 := blk_new (w.alloc (.cells #[.slice a f.len cap, .int .i64 b] 73)) (.cells #[.slice none 0 0, .int .i64 0] 92)
  have b2 := blk_new ((w.alloc (.cells #[.slice a f.len cap, .int .i64 b] 73)).alloc (.cells #[.slice none 0 0, .int .i64 0] 92)) (.cells #[.slice none 0 0, .int .i64 b] 92)
  have b0' := G3.blk (fun h => h) (G2.blk (fun h => h) b0)
  have b1' := G3.blk (fun h => h) b1
  rw [al_sz, al_sz] at b2
  rw [al_sz] at b1'
  have GG := hide (G1.trans (G2.trans G3))
  have sz3 : (((w.alloc (.cells #[.slice a f.len cap, .int .i64 b] 73)).alloc (.cells #[.slice none 0 0, .int .i64 0] 92)).alloc (.cells #[.slice none 0 0, .int .i64 b] 92)).heap.size = w.heap.size + 3 := by rw [al_sz, al_sz, al_sz]
  have BX := hide b0'
  have BR := hide b1'
  have BO := hide b2
  have SZ := hide sz3
  clear hx hv ih hB hf G1 G2 G3 b0 b1 b2 b0' b1' sz3
  go_enter Tryd.func70, Tryd.ntmps70
  go_wp2_with fail
  generalize (((w.alloc (.cells #[.slice a f.len cap, .int .i64 b] 73)).alloc (.cells #[.slice none 0 0, .int .i64 0] 92)).alloc (.cells #[.slice none 0 0, .int .i64 b] 92)) = w1 at *
  have NN : Hid (w.heap.size ≤ w.heap.size) := hide (Nat.le_refl _)
  obtain ⟨P, hP⟩ : ∃ P, w.heap.size = P := ⟨_, rfl⟩
  have HP := hide hP
  rw [hP] at BX BR BO ⊢
  obtain ⟨R, hR⟩ : ∃ R, P + 1 = R := ⟨_, rfl⟩
  rw [hR] at BR BO ⊢
  obtain ⟨O, hO⟩ : ∃ O, R + 1 = O := ⟨_, rfl⟩
  rw [hO] at BO ⊢
  obtain ⟨bo, hbo⟩ : ∃ bo, w1.heap.size = bo := ⟨_, rfl⟩
  have HS := hide hbo
  have HO : Hid (O < bo ∧ R < O ∧ w.heap.size < R ∧ P < R ∧ P = w.heap.size) := hide (by have := SZ.out; refine ⟨by omega, by omega, by omega, by omega, by omega⟩)
  clear hR hO hbo SZ NN hP
  go_loopw [4] (fun iv wr => ∃ (i : Nat), i ≤ f.len ∧ iv = .int .i64 i ∧ Hid (CInvT 92 w1 wr O bo b f i)) (fun iv _ => f.len - (intOf iv).toNat)
  case atStart => exact ⟨0, Nat.zero_le _, rfl, _, [], BO, ⟨rfl, Or.inl ⟨rfl, rfl⟩⟩, rfl, Same1.nil _ _ _ _, Nat.le_of_eq HS.out.symm, Chg.refl _ _⟩
  case round =>
    clear BO
    obtain ⟨i, hi, rfl, hIN⟩ := hrel
    obtain ⟨u, us, hT, hA, hL, hM, hZ, hC⟩ := hIN.out
    clear hIN
    have BXr := hC.out.blk (by have := HO.out; omega) BX.out
    have xP := blk_cell BXr 0
    simp only [List.getElem?_toArray, List.getElem?_cons_zero, List.getElem?_cons_succ] at xP
    clear BXr
    by_cases hlt : i < f.len
    · have hit : i < f.toL.length := by omega
      obtain ⟨la, lc, hlv, hl⟩ := HV.out
      rcases hl with h0 | ⟨g, off, rfl, hg, hl⟩
      · subst h0; exact absurd hlt (Nat.not_lt_zero _)
      injection hlv with e1 e2 e3
      subst e1
      obtain ⟨⟨vi, c0, ti⟩, c1⟩ := lies_get hl i hit
      obtain ⟨ka, kc, rfl, _⟩ := id ti
      have hks := Fs.kid_size f i hit
      have WC : Chg (fun x => x = O) w wr := GG.out.none.trans hC.out
      have nO : ∀ x, X x → ¬ x = O := fun x hx e => by have := HB.out x hx; have := HO.out; omega
      have d0 := WC.cell (nO g hg) c0
      have d1 := WC.cell (nO g hg) c1
      have ti5 := hide (ti.chg WC nO)
      have KI := hide (IH.out (f.toL[i]).1 (by have := HF.out; omega) (.slice ka (f.toL[i]).1.len kc) (f.toL[i]).2 X)
      have BW := hide (fun x (hx : X x) => Nat.lt_of_lt_of_le (HB.out x hx) WC.size)
      have SN := hide (fun (w' : World) (v' : Value) (h : Same1 w' bo u f us) (hv' : Ts w' (fun x => bo ≤ x ∧ x < w'.heap.size ∧ u.ownBlock ≠ some x) v' (f.toL[i]).1) => h.snoc hit hL.out rfl hv')
      have RL := hide (fun r (e : u.ownBlock = some r) => World.ownsRow.lt (show wr.ownsRow bo 92 2 u us.length (cellsV us) from hA.out) r e)
      have i1 : (0 : Int) ≤ (i : Int) := by omega
      have i2 : (i : Int) < (f.len : Int) := by omega
      have zO := blk_cell hT.out 0
      simp only [List.getElem?_toArray, List.getElem?_cons_zero, List.getElem?_cons_succ] at zO
      have HT5 := hT
      have A5 := hide (show wr.ownsRow bo 92 2 u us.length (cellsV us) from hA.out)
      have M5 := hM
      have C5 := hC
      have Z5 := hZ
      have lO : Hid (P ≠ O ∧ g ≠ O ∧ (∀ r, u.ownBlock = some r → P ≠ r ∧ g ≠ r)) := hide (by
        have h1 := HB.out g hg
        have h2 := HO.out
        have h3 := HS.out
        refine ⟨by omega, by omega, fun r e => ?_⟩
        have := (RL.out r e).1
        exact ⟨by omega, by omega⟩)
      have hus : us.length ≤ 1000001 := by have := hL.out; omega
      have HUL := hide hL.out
      clear hl c0 c1 ti hks WC nO hT hA hL hM hZ hC
      obtain ⟨kk, hkk⟩ : ∃ kk, kk = (f.toL[i]).1 := ⟨_, rfl⟩
      rw [← hkk] at d0 ti5 KI SN
      generalize (f.toL[i]).2 = kb at *
      clear hkk
      go_wp2_with fail
      generalize wr = w5 at *
      refine wp_region_held_drew (S := (fun w' => w'.cell? ⟨P, 0, none⟩ = some (.slice (some ⟨g, off, none⟩) f.len cap) ∧ w'.cell? ⟨g, off + i * 2, none⟩ = some (.slice ka kk.len kc) ∧ w'.cell? ⟨g, off + i * 2 + 1, none⟩ = some (.int .i64 kb))) (by kernel_rfl) (by go_keep) (fun hHeld => ?_)
      first
        | (refine wpAnyH_take (i := 0) (v := undef) rfl (by kernel_rfl) (by kernel_rfl) (by kernel_rfl) (fun _ _ _ h => h) (Or.inr ⟨by rfl, rfl⟩) (by assumption) ?_)
        | (refine wpAnyH_take (i := 0) (v := ?_) rfl (by kernel_rfl) (by kernel_rfl) (by kernel_rfl) (fun _ _ _ h => h) (Or.inl ⟨by rfl, ?_⟩) (by assumption) ?_
           rotate_left
           (intro w hSw
            (try dsimp only at hSw)
            (go_simp <;> with_reducible rfl)))
      try simp only [Act.put, List.getElem_toArray, List.getElem_cons_zero, List.getElem_cons_succ, List.setIfInBounds_toArray, List.set_cons_zero, List.set_cons_succ]
      first
        | (refine wpAnyH_take (i := 2) (v := undef) rfl (by kernel_rfl) (by kernel_rfl) (by kernel_rfl) (fun _ _ _ h => h) (Or.inr ⟨by rfl, rfl⟩) (by assumption) ?_)
        | (refine wpAnyH_take (i := 2) (v := ?_) rfl (by kernel_rfl) (by kernel_rfl) (by kernel_rfl) (fun _ _ _ h => h) (Or.inl ⟨by rfl, ?_⟩) (by assumption) ?_
           rotate_left
           (intro w hSw
            (try dsimp only at hSw)
            (go_simp <;> with_reducible rfl)))
      try simp only [Act.put, List.getElem_toArray, List.getElem_cons_zero, List.getElem_cons_succ, List.setIfInBounds_toArray, List.set_cons_zero, List.set_cons_succ]
      first
        | (refine wpAnyH_take (i := 3) (v := undef) rfl (by kernel_rfl) (by kernel_rfl) (by kernel_rfl) (fun _ _ _ h => h) (Or.inr ⟨by rfl, rfl⟩) (by assumption) ?_)
        | (refine wpAnyH_take (i := 3) (v := ?_) rfl (by kernel_rfl) (by kernel_rfl) (by kernel_rfl) (fun _ _ _ h => h) (Or.inl ⟨by rfl, ?_⟩) (by assumption) ?_
           rotate_left
           (intro w hSw
            (try dsimp only at hSw)
            (go_simp <;> with_reducible rfl)))
      try simp only [Act.put, List.getElem_toArray, List.getElem_cons_zero, List.getElem_cons_succ, List.setIfInBounds_toArray, List.set_cons_zero, List.set_cons_succ]
      first
        | (refine wpAnyH_take (i := 4) (v := undef) rfl (by kernel_rfl) (by kernel_rfl) (by kernel_rfl) (fun _ _ _ h => h) (Or.inr ⟨by rfl, rfl⟩) (by assumption) ?_)
        | (refine wpAnyH_take (i := 4) (v := ?_) rfl (by kernel_rfl) (by kernel_rfl) (by kernel_rfl) (fun _ _ _ h => h) (Or.inl ⟨by rfl, ?_⟩) (by assumption) ?_
           rotate_left
           (intro w hSw
            (try dsimp only at hSw)
            (go_simp <;> with_reducible rfl)))
      try simp only [Act.put, List.getElem_toArray, List.getElem_cons_zero, List.getElem_cons_succ, List.setIfInBounds_toArray, List.set_cons_zero, List.set_cons_succ]
      first
        | (refine wpAnyH_take (i := 5) (v := undef) rfl (by kernel_rfl) (by kernel_rfl) (by kernel_rfl) (fun _ _ _ h => h) (Or.inr ⟨by rfl, rfl⟩) (by assumption) ?_)
        | (refine wpAnyH_take (i := 5) (v := ?_) rfl (by kernel_rfl) (by kernel_rfl) (by kernel_rfl) (fun _ _ _ h => h) (Or.inl ⟨by rfl, ?_⟩) (by assumption) ?_
           rotate_left
           (intro w hSw
            (try dsimp only at hSw)
            (go_simp <;> with_reducible rfl)))
      try simp only [Act.put, List.getElem_toArray, List.getElem_cons_zero, List.getElem_cons_succ, List.setIfInBounds_toArray, List.set_cons_zero, List.set_cons_succ]
      first
        | (refine wpAnyH_take (i := 6) (v := undef) rfl (by kernel_rfl) (by kernel_rfl) (by kernel_rfl) (fun _ _ _ h => h) (Or.inr ⟨by rfl, rfl⟩) (by assumption) ?_)
        | (refine wpAnyH_take (i := 6) (v := ?_) rfl (by kernel_rfl) (by kernel_rfl) (by kernel_rfl) (fun _ _ _ h => h) (Or.inl ⟨by rfl, ?_⟩) (by assumption) ?_
           rotate_left
           (intro w hSw
            (try dsimp only at hSw)
            (go_simp <;> with_reducible rfl)))
      try simp only [Act.put, List.getElem_toArray, List.getElem_cons_zero, List.getElem_cons_succ, List.setIfInBounds_toArray, List.set_cons_zero, List.set_cons_succ]
      refine wpAnyH_ready (rs := [1, 7]) (by kernel_rfl) (by simp) ?_
      refine AllReadyH.cons (i := 1) (o := _) rfl (fun K hK => ?_) ?_
      · go_simp
        refine hK.out _ _ ⟨xP, d0, d1⟩ (fun hHeld => ?_)
        clear hK K
        try simp only [Act.put, List.getElem_toArray, List.getElem_cons_zero, List.getElem_cons_succ, List.setIfInBounds_toArray, List.set_cons_zero, List.set_cons_succ]
        refine wpAnyH_ready (rs := [7]) (by kernel_rfl) (by simp) ?_
        refine AllReadyH.cons (i := 7) (o := _) rfl (fun K hK => ?_) ?_
        rotate_left
        · exact AllReadyH.nil
        go_simp
        refine (KI.out w5.drew BW.out (ti5.out.chg ((Chg.refl (fun _ => False) w5).drew) (fun _ _ h => h))).mono ?_
        rintro e w6 ⟨⟨v', rfl, t6⟩, g6'⟩
        obtain ⟨va, vc, rfl, _⟩ := id t6
        have g6 := (Chg.refl (fun _ => False) w5).drew.trans g6'
        have xP6 := g6.cell (fun h => h) xP
        have d06 := g6.cell (fun h => h) d0
        have d16 := g6.cell (fun h => h) d1
        have zO6 := g6.cell (fun h => h) zO
        have G7 := al w6 (.cells #[.slice va kk.len vc, .int .i64 kb] 92)
        have xP7 := G7.cell (fun h => h) xP6
        have d07 := G7.cell (fun h => h) d06
        have d17 := G7.cell (fun h => h) d16
        have zO7 := G7.cell (fun h => h) zO6
        have HT7 := hide (G7.blk (fun h => h) (g6.blk (fun h => h) HT5.out))
        have A7 := hide (own_chg (own_chg A5.out g6 (fun x hx h => h)) G7 (fun x hx h => h))
        have M7 := (M5.out.chg g6 (fun _ _ _ _ h => h)).chg G7 (fun _ _ _ _ h => h)
        have C7 := hide ((C5.out.trans g6.none).trans G7.none)
        have T7 := (t6.chg G7 (fun _ _ h => h)).up (Y := fun x => bo ≤ x ∧ x < (w6.alloc (.cells #[.slice va kk.len vc, .int .i64 kb] 92)).heap.size ∧ u.ownBlock ≠ some x) (fun x hx => ⟨Nat.le_trans Z5.out hx.1, Nat.lt_of_lt_of_le hx.2 G7.size, fun e => by have h1 := (RL.out x e).2; have h3 : w5.heap.size ≤ x := hx.1; omega⟩)
        have N7 := hide (SN.out _ _ M7 T7)
        have Z7 := hide (Nat.le_trans Z5.out (Nat.le_trans g6.size G7.size))
        have NB := hide (World.news_of_block (cs := #[.slice va kk.len vc, .int .i64 kb]) (t := 92) (fr := (0, 0)) (heap_alloc_new w6 _))
        clear t6 g6 g6' G7 M7 T7
        go_simp
        refine hK.out _ _ ⟨xP6, d06, d16⟩ (fun hHeld => ?_)
        clear hK K
        try simp only [Act.put, List.getElem_toArray, List.getElem_cons_zero, List.getElem_cons_succ, List.setIfInBounds_toArray, List.set_cons_zero, List.set_cons_succ]
        refine wpAnyH_ready (rs := [8]) (by kernel_rfl) (by simp) ?_
        refine AllReadyH.cons (i := 8) (o := _) rfl (fun K hK => ?_) ?_
        rotate_left
        · exact AllReadyH.nil
        go_simp
        refine hK.out _ _ ⟨xP7, d07, d17⟩ (fun hHeld => ?_)
        clear hK K
        try simp only [Act.put, List.getElem_toArray, List.getElem_cons_zero, List.getElem_cons_succ, List.setIfInBounds_toArray, List.set_cons_zero, List.set_cons_succ]
        refine wpAnyH_ready (rs := [9]) (by kernel_rfl) (by simp) ?_
        refine AllReadyH.cons (i := 9) (o := _) rfl (fun K hK => ?_) ?_
        rotate_left
        · exact AllReadyH.nil
        refine step_append_lies _ (by rfl) _ _ _ (by rfl) bo 92 i0 (.agg #[.slice none 0 0, .int .i64 0]) 2 32 Tryd.underlying22 hi0 hz0 hz1 hz2 rfl (by omega) _ us.length (cellsV us) (by rfl) A7.out ⟨w6.heap.size, 0, none⟩ 1 1 [.slice va kk.len vc, .int .i64 kb] (by rfl) (by rfl) NB.out (by simp [Value.oneCell']) (by omega) (by simp [maxLen]; omega) (by omega) Z7.out (w6.heap.size + 1) (by simp) ?_
        intro gg cap2 w8 hown hgrow hgat hglt
        have GR := (Chg.refl (fun x => u.ownBlock = some x) (w6.alloc (.cells #[.slice va kk.len vc, .int .i64 kb] 92))).grown hgrow (fun r e => Or.inl e)
        have nO : ¬ u.ownBlock = some O := fun e => by have := (RL.out O e).1; have := HO.out; omega
        have T8 := GR.blk nO HT7.out
        have zO8 := blk_cell T8 0
        have fO8 := blk_free T8 0
        simp only [List.getElem?_toArray, List.getElem?_cons_zero, List.getElem?_cons_succ] at zO8
        have xP8 := GR.cell (fun e => (lO.out.2.2 P e).1 rfl) xP7
        have d08 := GR.cell (fun e => (lO.out.2.2 g e).2 rfl) d07
        have d18 := GR.cell (fun e => (lO.out.2.2 g e).2 rfl) d17
        have M8 := N7.out.grown hgrow (u' := .slice (some ⟨gg, 0, none⟩) (us.length + 1) cap2) (by rcases hgat with h | h; exact Or.inl (by rw [h]; rfl); exact Or.inr (by rw [h, al_sz]; rfl))
        have G9 := Chg.set w8 O 0 (.slice (some ⟨gg, 0, none⟩) (us.length + 1) cap2)
        have T9 : Hid ((w8.setCell ⟨O, 0, none⟩ (.slice (some ⟨gg, 0, none⟩) (us.length + 1) cap2)).heap[O]? = some (.cells #[.slice (some ⟨gg, 0, none⟩) (us.length + 1) cap2, .int .i64 b] 92)) := hide (blk_set T8 0 (.slice (some ⟨gg, 0, none⟩) (us.length + 1) cap2))
        have A9 := hide (taccT_snoc (own_chg hown G9 (fun x hx e => by have := HO.out; omega)))
        have M9 := hide (M8.chg G9 (fun x hx _ _ e => by have := HO.out; omega))
        have Z9 := hide (Nat.le_trans Z7.out (Nat.le_trans GR.size G9.size))
        have C9 : Hid (Chg (fun x => x = O) w1 (w8.setCell ⟨O, 0, none⟩ (.slice (some ⟨gg, 0, none⟩) (us.length + 1) cap2))) := hide (by
          have h1 : Chg (fun x => x = O ∨ bo ≤ x) w1 _ := ((C7.out.mono (fun x _ h => Or.inl h)).trans (GR.mono (fun x _ h => Or.inr (RL.out x h).1))).trans (G9.mono (fun x _ h => Or.inl h))
          exact h1.mono (fun x hx h => by have := HS.out; omega))
        have xP9 := G9.cell lO.out.1 xP8
        have d09 := G9.cell lO.out.2.1 d08
        have d19 := G9.cell lO.out.2.1 d18
        have HL9 : Hid ((us ++ [((Value.slice va kk.len vc), kb)]).length = i + 1) := hide (by rw [List.length_append, HUL.out]; rfl)
        have F9 : Hid (CInvT 92 w1 (w8.setCell ⟨O, 0, none⟩ (.slice (some ⟨gg, 0, none⟩) (us.length + 1) cap2)) O bo b f (i + 1)) := hide ⟨_, us ++ [(.slice va kk.len vc, kb)], T9, A9, HL9, M9, Z9, C9⟩
        clear GR T8 M8 G9 hown hgrow hgat nO T9 A9 HL9 M9 Z9 C9
        refine hK.out _ _ ⟨xP8, d08, d18⟩ (fun hHeld => ?_)
        clear hK K
        try simp only [Act.put, List.getElem_toArray, List.getElem_cons_zero, List.getElem_cons_succ, List.setIfInBounds_toArray, List.set_cons_zero, List.set_cons_succ]
        first
          | (refine wpAnyH_take (i := 10) (v := undef) rfl (by kernel_rfl) (by kernel_rfl) (by kernel_rfl) (fun _ _ _ h => h) (Or.inr ⟨by rfl, rfl⟩) (by assumption) ?_)
          | (refine wpAnyH_take (i := 10) (v := ?_) rfl (by kernel_rfl) (by kernel_rfl) (by kernel_rfl) (fun _ _ _ h => h) (Or.inl ⟨by rfl, ?_⟩) (by assumption) ?_
             rotate_left
             (intro w hSw
              (try dsimp only at hSw)
              (go_simp <;> with_reducible rfl)))
        try simp only [Act.put, List.getElem_toArray, List.getElem_cons_zero, List.getElem_cons_succ, List.setIfInBounds_toArray, List.set_cons_zero, List.set_cons_succ]
        refine wpAnyH_ready (rs := [11]) (by kernel_rfl) (by simp) ?_
        refine AllReadyH.cons (i := 11) (o := _) rfl (fun K hK => ?_) ?_
        rotate_left
        · exact AllReadyH.nil
        go_simp
        refine hK.out _ _ ⟨xP9, d09, d19⟩ (fun hHeld => ?_)
        clear hK K
        try simp only [Act.put, List.getElem_toArray, List.getElem_cons_zero, List.getElem_cons_succ, List.setIfInBounds_toArray, List.set_cons_zero, List.set_cons_succ]
        refine wpAnyH_done (by kernel_rfl) ?_ _
        go_wp2_with fail
        go_roundw
        case rel => exact ⟨i + 1, by omega, by go_num, F9⟩
        case measure => simp [intOf]; omega
      refine AllReadyH.cons (i := 7) (o := _) rfl (fun K hK => ?_) ?_
      rotate_left
      · exact AllReadyH.nil
      go_simp
      refine (KI.out w5.drew BW.out (ti5.out.chg ((Chg.refl (fun _ => False) w5).drew) (fun _ _ h => h))).mono ?_
      rintro e w6 ⟨⟨v', rfl, t6⟩, g6'⟩
      obtain ⟨va, vc, rfl, _⟩ := id t6
      have g6 := (Chg.refl (fun _ => False) w5).drew.trans g6'
      have xP6 := g6.cell (fun h => h) xP
      have d06 := g6.cell (fun h => h) d0
      have d16 := g6.cell (fun h => h) d1
      have zO6 := g6.cell (fun h => h) zO
      have G7 := al w6 (.cells #[.slice va kk.len vc, .int .i64 kb] 92)
      have xP7 := G7.cell (fun h => h) xP6
      have d07 := G7.cell (fun h => h) d06
      have d17 := G7.cell (fun h => h) d16
      have zO7 := G7.cell (fun h => h) zO6
      have HT7 := hide (G7.blk (fun h => h) (g6.blk (fun h => h) HT5.out))
      have A7 := hide (own_chg (own_chg A5.out g6 (fun x hx h => h)) G7 (fun x hx h => h))
      have M7 := (M5.out.chg g6 (fun _ _ _ _ h => h)).chg G7 (fun _ _ _ _ h => h)
      have C7 := hide ((C5.out.trans g6.none).trans G7.none)
      have T7 := (t6.chg G7 (fun _ _ h => h)).up (Y := fun x => bo ≤ x ∧ x < (w6.alloc (.cells #[.slice va kk.len vc, .int .i64 kb] 92)).heap.size ∧ u.ownBlock ≠ some x) (fun x hx => ⟨Nat.le_trans Z5.out hx.1, Nat.lt_of_lt_of_le hx.2 G7.size, fun e => by have h1 := (RL.out x e).2; have h3 : w5.heap.size ≤ x := hx.1; omega⟩)
      have N7 := hide (SN.out _ _ M7 T7)
      have Z7 := hide (Nat.le_trans Z5.out (Nat.le_trans g6.size G7.size))
      have NB := hide (World.news_of_block (cs := #[.slice va kk.len vc, .int .i64 kb]) (t := 92) (fr := (0, 0)) (heap_alloc_new w6 _))
      clear t6 g6 g6' G7 M7 T7
      go_simp
      refine hK.out _ _ ⟨xP6, d06, d16⟩ (fun hHeld => ?_)
      clear hK K
      try simp only [Act.put, List.getElem_toArray, List.getElem_cons_zero, List.getElem_cons_succ, List.setIfInBounds_toArray, List.set_cons_zero, List.set_cons_succ]
      refine wpAnyH_ready (rs := [1, 8]) (by kernel_rfl) (by simp) ?_
      refine AllReadyH.cons (i := 1) (o := _) rfl (fun K hK => ?_) ?_
      · go_simp
        refine hK.out _ _ ⟨xP6, d06, d16⟩ (fun hHeld => ?_)
        clear hK K
        try simp only [Act.put, List.getElem_toArray, List.getElem_cons_zero, List.getElem_cons_succ, List.setIfInBounds_toArray, List.set_cons_zero, List.set_cons_succ]
        refine wpAnyH_ready (rs := [8]) (by kernel_rfl) (by simp) ?_
        refine AllReadyH.cons (i := 8) (o := _) rfl (fun K hK => ?_) ?_
        rotate_left
        · exact AllReadyH.nil
        go_simp
        refine hK.out _ _ ⟨xP7, d07, d17⟩ (fun hHeld => ?_)
        clear hK K
        try simp only [Act.put, List.getElem_toArray, List.getElem_cons_zero, List.getElem_cons_succ, List.setIfInBounds_toArray, List.set_cons_zero, List.set_cons_succ]
        refine wpAnyH_ready (rs := [9]) (by kernel_rfl) (by simp) ?_
        refine AllReadyH.cons (i := 9) (o := _) rfl (fun K hK => ?_) ?_
        rotate_left
        · exact AllReadyH.nil
        refine step_append_lies _ (by rfl) _ _ _ (by rfl) bo 92 i0 (.agg #[.slice none 0 0, .int .i64 0]) 2 32 Tryd.underlying22 hi0 hz0 hz1 hz2 rfl (by omega) _ us.length (cellsV us) (by rfl) A7.out ⟨w6.heap.size, 0, none⟩ 1 1 [.slice va kk.len vc, .int .i64 kb] (by rfl) (by rfl) NB.out (by simp [Value.oneCell']) (by omega) (by simp [maxLen]; omega) (by omega) Z7.out (w6.heap.size + 1) (by simp) ?_
        intro gg cap2 w8 hown hgrow hgat hglt
        have GR := (Chg.refl (fun x => u.ownBlock = some x) (w6.alloc (.cells #[.slice va kk.len vc, .int .i64 kb] 92))).grown hgrow (fun r e => Or.inl e)
        have nO : ¬ u.ownBlock = some O := fun e => by have := (RL.out O e).1; have := HO.out; omega
        have T8 := GR.blk nO HT7.out
        have zO8 := blk_cell T8 0
        have fO8 := blk_free T8 0
        simp only [List.getElem?_toArray, List.getElem?_cons_zero, List.getElem?_cons_succ] at zO8
        have xP8 := GR.cell (fun e => (lO.out.2.2 P e).1 rfl) xP7
        have d08 := GR.cell (fun e => (lO.out.2.2 g e).2 rfl) d07
        have d18 := GR.cell (fun e => (lO.out.2.2 g e).2 rfl) d17
        have M8 := N7.out.grown hgrow (u' := .slice (some ⟨gg, 0, none⟩) (us.length + 1) cap2) (by rcases hgat with h | h; exact Or.inl (by rw [h]; rfl); exact Or.inr (by rw [h, al_sz]; rfl))
        have G9 := Chg.set w8 O 0 (.slice (some ⟨gg, 0, none⟩) (us.length + 1) cap2)
        have T9 : Hid ((w8.setCell ⟨O, 0, none⟩ (.slice (some ⟨gg, 0, none⟩) (us.length + 1) cap2)).heap[O]? = some (.cells #[.slice (some ⟨gg, 0, none⟩) (us.length + 1) cap2, .int .i64 b] 92)) := hide (blk_set T8 0 (.slice (some ⟨gg, 0, none⟩) (us.length + 1) cap2))
        have A9 := hide (taccT_snoc (own_chg hown G9 (fun x hx e => by have := HO.out; omega)))
        have M9 := hide (M8.chg G9 (fun x hx _ _ e => by have := HO.out; omega))
        have Z9 := hide (Nat.le_trans Z7.out (Nat.le_trans GR.size G9.size))
        have C9 : Hid (Chg (fun x => x = O) w1 (w8.setCell ⟨O, 0, none⟩ (.slice (some ⟨gg, 0, none⟩) (us.length + 1) cap2))) := hide (by
          have h1 : Chg (fun x => x = O ∨ bo ≤ x) w1 _ := ((C7.out.mono (fun x _ h => Or.inl h)).trans (GR.mono (fun x _ h => Or.inr (RL.out x h).1))).trans (G9.mono (fun x _ h => Or.inl h))
          exact h1.mono (fun x hx h => by have := HS.out; omega))
        have xP9 := G9.cell lO.out.1 xP8
        have d09 := G9.cell lO.out.2.1 d08
        have d19 := G9.cell lO.out.2.1 d18
        have HL9 : Hid ((us ++ [((Value.slice va kk.len vc), kb)]).length = i + 1) := hide (by rw [List.length_append, HUL.out]; rfl)
        have F9 : Hid (CInvT 92 w1 (w8.setCell ⟨O, 0, none⟩ (.slice (some ⟨gg, 0, none⟩) (us.length + 1) cap2)) O bo b f (i + 1)) := hide ⟨_, us ++ [(.slice va kk.len vc, kb)], T9, A9, HL9, M9, Z9, C9⟩
        clear GR T8 M8 G9 hown hgrow hgat nO T9 A9 HL9 M9 Z9 C9
        refine hK.out _ _ ⟨xP8, d08, d18⟩ (fun hHeld => ?_)
        clear hK K
        try simp only [Act.put, List.getElem_toArray, List.getElem_cons_zero, List.getElem_cons_succ, List.setIfInBounds_toArray, List.set_cons_zero, List.set_cons_succ]
        first
          | (refine wpAnyH_take (i := 10) (v := undef) rfl (by kernel_rfl) (by kernel_rfl) (by kernel_rfl) (fun _ _ _ h => h) (Or.inr ⟨by rfl, rfl⟩) (by assumption) ?_)
          | (refine wpAnyH_take (i := 10) (v := ?_) rfl (by kernel_rfl) (by kernel_rfl) (by kernel_rfl) (fun _ _ _ h => h) (Or.inl ⟨by rfl, ?_⟩) (by assumption) ?_
             rotate_left
             (intro w hSw
              (try dsimp only at hSw)
              (go_simp <;> with_reducible rfl)))
        try simp only [Act.put, List.getElem_toArray, List.getElem_cons_zero, List.getElem_cons_succ, List.setIfInBounds_toArray, List.set_cons_zero, List.set_cons_succ]
        refine wpAnyH_ready (rs := [11]) (by kernel_rfl) (by simp) ?_
        refine AllReadyH.cons (i := 11) (o := _) rfl (fun K hK => ?_) ?_
        rotate_left
        · exact AllReadyH.nil
        go_simp
        refine hK.out _ _ ⟨xP9, d09, d19⟩ (fun hHeld => ?_)
        clear hK K
        try simp only [Act.put, List.getElem_toArray, List.getElem_cons_zero, List.getElem_cons_succ, List.setIfInBounds_toArray, List.set_cons_zero, List.set_cons_succ]
        refine wpAnyH_done (by kernel_rfl) ?_ _
        go_wp2_with fail
        go_roundw
        case rel => exact ⟨i + 1, by omega, by go_num, F9⟩
        case measure => simp [intOf]; omega
      refine AllReadyH.cons (i := 8) (o := _) rfl (fun K hK => ?_) ?_
      rotate_left
      · exact AllReadyH.nil
      go_simp
      refine hK.out _ _ ⟨xP7, d07, d17⟩ (fun hHeld => ?_)
      clear hK K
      try simp only [Act.put, List.getElem_toArray, List.getElem_cons_zero, List.getElem_cons_succ, List.setIfInBounds_toArray, List.set_cons_zero, List.set_cons_succ]
      refine wpAnyH_ready (rs := [1]) (by kernel_rfl) (by simp) ?_
      refine AllReadyH.cons (i := 1) (o := _) rfl (fun K hK => ?_) ?_
      rotate_left
      · exact AllReadyH.nil
      go_simp
      refine hK.out _ _ ⟨xP7, d07, d17⟩ (fun hHeld => ?_)
      clear hK K
      try simp only [Act.put, List.getElem_toArray, List.getElem_cons_zero, List.getElem_cons_succ, List.setIfInBounds_toArray, List.set_cons_zero, List.set_cons_succ]
      refine wpAnyH_ready (rs := [9]) (by kernel_rfl) (by simp) ?_
      refine AllReadyH.cons (i := 9) (o := _) rfl (fun K hK => ?_) ?_
      rotate_left
      · exact AllReadyH.nil
      refine step_append_lies _ (by rfl) _ _ _ (by rfl) bo 92 i0 (.agg #[.slice none 0 0, .int .i64 0]) 2 32 Tryd.underlying22 hi0 hz0 hz1 hz2 rfl (by omega) _ us.length (cellsV us) (by rfl) A7.out ⟨w6.heap.size, 0, none⟩ 1 1 [.slice va kk.len vc, .int .i64 kb] (by rfl) (by rfl) NB.out (by simp [Value.oneCell']) (by omega) (by simp [maxLen]; omega) (by omega) Z7.out (w6.heap.size + 1) (by simp) ?_
      intro gg cap2 w8 hown hgrow hgat hglt
      have GR := (Chg.refl (fun x => u.ownBlock = some x) (w6.alloc (.cells #[.slice va kk.len vc, .int .i64 kb] 92))).grown hgrow (fun r e => Or.inl e)
      have nO : ¬ u.ownBlock = some O := fun e => by have := (RL.out O e).1; have := HO.out; omega
      have T8 := GR.blk nO HT7.out
      have zO8 := blk_cell T8 0
      have fO8 := blk_free T8 0
      simp only [List.getElem?_toArray, List.getElem?_cons_zero, List.getElem?_cons_succ] at zO8
      have xP8 := GR.cell (fun e => (lO.out.2.2 P e).1 rfl) xP7
      have d08 := GR.cell (fun e => (lO.out.2.2 g e).2 rfl) d07
      have d18 := GR.cell (fun e => (lO.out.2.2 g e).2 rfl) d17
      have M8 := N7.out.grown hgrow (u' := .slice (some ⟨gg, 0, none⟩) (us.length + 1) cap2) (by rcases hgat with h | h; exact Or.inl (by rw [h]; rfl); exact Or.inr (by rw [h, al_sz]; rfl))
      have G9 := Chg.set w8 O 0 (.slice (some ⟨gg, 0, none⟩) (us.length + 1) cap2)
      have T9 : Hid ((w8.setCell ⟨O, 0, none⟩ (.slice (some ⟨gg, 0, none⟩) (us.length + 1) cap2)).heap[O]? = some (.cells #[.slice (some ⟨gg, 0, none⟩) (us.length + 1) cap2, .int .i64 b] 92)) := hide (blk_set T8 0 (.slice (some ⟨gg, 0, none⟩) (us.length + 1) cap2))
      have A9 := hide (taccT_snoc (own_chg hown G9 (fun x hx e => by have := HO.out; omega)))
      have M9 := hide (M8.chg G9 (fun x hx _ _ e => by have := HO.out; omega))
      have Z9 := hide (Nat.le_trans Z7.out (Nat.le_trans GR.size G9.size))
      have C9 : Hid (Chg (fun x => x = O) w1 (w8.setCell ⟨O, 0, none⟩ (.slice (some ⟨gg, 0, none⟩) (us.length + 1) cap2))) := hide (by
        have h1 : Chg (fun x => x = O ∨ bo ≤ x) w1 _ := ((C7.out.mono (fun x _ h => Or.inl h)).trans (GR.mono (fun x _ h => Or.inr (RL.out x h).1))).trans (G9.mono (fun x _ h => Or.inl h))
        exact h1.mono (fun x hx h => by have := HS.out; omega))
      have xP9 := G9.cell lO.out.1 xP8
      have d09 := G9.cell lO.out.2.1 d08
      have d19 := G9.cell lO.out.2.1 d18
      have HL9 : Hid ((us ++ [((Value.slice va kk.len vc), kb)]).length = i + 1) := hide (by rw [List.length_append, HUL.out]; rfl)
      have F9 : Hid (CInvT 92 w1 (w8.setCell ⟨O, 0, none⟩ (.slice (some ⟨gg, 0, none⟩) (us.length + 1) cap2)) O bo b f (i + 1)) := hide ⟨_, us ++ [(.slice va kk.len vc, kb)], T9, A9, HL9, M9, Z9, C9⟩
      clear GR T8 M8 G9 hown hgrow hgat nO T9 A9 HL9 M9 Z9 C9
      refine hK.out _ _ ⟨xP8, d08, d18⟩ (fun hHeld => ?_)
      clear hK K
      try simp only [Act.put, List.getElem_toArray, List.getElem_cons_zero, List.getElem_cons_succ, List.setIfInBounds_toArray, List.set_cons_zero, List.set_cons_succ]
      first
        | (refine wpAnyH_take (i := 10) (v := undef) rfl (by kernel_rfl) (by kernel_rfl) (by kernel_rfl) (fun _ _ _ h => h) (Or.inr ⟨by rfl, rfl⟩) (by assumption) ?_)
        | (refine wpAnyH_take (i := 10) (v := ?_) rfl (by kernel_rfl) (by kernel_rfl) (by kernel_rfl) (fun _ _ _ h => h) (Or.inl ⟨by rfl, ?_⟩) (by assumption) ?_
           rotate_left
           (intro w hSw
            (try dsimp only at hSw)
            (go_simp <;> with_reducible rfl)))
      try simp only [Act.put, List.getElem_toArray, List.getElem_cons_zero, List.getElem_cons_succ, List.setIfInBounds_toArray, List.set_cons_zero, List.set_cons_succ]
      refine wpAnyH_ready (rs := [11]) (by kernel_rfl) (by simp) ?_
      refine AllReadyH.cons (i := 11) (o := _) rfl (fun K hK => ?_) ?_
      rotate_left
      · exact AllReadyH.nil
      go_simp
      refine hK.out _ _ ⟨xP9, d09, d19⟩ (fun hHeld => ?_)
      clear hK K
      try simp only [Act.put, List.getElem_toArray, List.getElem_cons_zero, List.getElem_cons_succ, List.setIfInBounds_toArray, List.set_cons_zero, List.set_cons_succ]
      refine wpAnyH_done (by kernel_rfl) ?_ _
      go_wp2_with fail
      go_roundw
      case rel => exact ⟨i + 1, by omega, by go_num, F9⟩
      case measure => simp [intOf]; omega
    · have hif : i = f.len := by omega
      have BRr := hC.out.blk (by have := HO.out; omega) BR.out
      have zO := blk_cell hT.out 0
      have zO1 := blk_cell hT.out 1
      have cR0 := blk_cell BRr 0
      have cR1 := blk_cell BRr 1
      have fR0 := blk_free BRr 0
      have fR1 := blk_free BRr 1
      simp only [List.getElem?_toArray, List.getElem?_cons_zero, List.getElem?_cons_succ] at zO zO1 cR0 cR1
      obtain ⟨ua, uc, hue⟩ : ∃ ua uc, u = .slice ua us.length uc := by
        rcases (show wr.ownsRow bo 92 2 u us.length (cellsV us) from hA.out).2 with ⟨h1, h2⟩ | ⟨g, cap2, cur, h1, _⟩
        · exact ⟨_, _, by rw [h1, h2]⟩
        · exact ⟨_, _, h1⟩
      have T1 := blk_set BRr 0 u
      have T2 := blk_set T1 1 (.int .i64 b)
      have S1 := Chg.set wr R 0 u
      have S2 := Chg.set (wr.setCell ⟨R, 0, none⟩ u) R 1 (.int .i64 b)
      have SS := S1.trans S2
      have AF := own_chg (show wr.ownsRow bo 92 2 u us.length (cellsV us) from hA.out) SS (fun x hx e => by have := HO.out; omega)
      have MF := hM.out.chg SS (fun x hx _ _ e => by have := HO.out; omega)
      have CF : Chg (fun _ => False) w ((wr.setCell ⟨R, 0, none⟩ u).setCell ⟨R, 1, none⟩ (.int .i64 b)) := by
        have h1 : Chg (fun x => x = O ∨ x = R) w _ := (GG.out.none.trans (hC.out.mono (fun x _ h => Or.inl h))).trans (SS.mono (fun x _ h => Or.inr h))
        exact h1.mono (fun x hx h => by have := HO.out; omega)
      have F : Hid (Ts ((wr.setCell ⟨R, 0, none⟩ u).setCell ⟨R, 1, none⟩ (.int .i64 b)) (fun x => w.heap.size ≤ x ∧ x < ((wr.setCell ⟨R, 0, none⟩ u).setCell ⟨R, 1, none⟩ (.int .i64 b)).heap.size) u f ∧ Chg (fun _ => False) w ((wr.setCell ⟨R, 0, none⟩ u).setCell ⟨R, 1, none⟩ (.int .i64 b))) := hide ⟨taccT_ts AF (fun r e => by have h1 := World.ownsRow.lt AF r e; have := HO.out; exact ⟨by omega, h1.2⟩) (by rw [hL.out, htl, hif]) (fun j h1 h2 => ⟨(MF.2 j h1 h2).1, (MF.2 j h1 h2).2.up (fun x hx => ⟨by have := HO.out; omega, hx.2.1⟩)⟩), CF⟩
      have z0 : ((wr.setCell ⟨R, 0, none⟩ u).setCell ⟨R, 1, none⟩ (.int .i64 b)).cell? ⟨R, 0, none⟩ = some u := blk_cell T2 0
      have z1 : ((wr.setCell ⟨R, 0, none⟩ u).setCell ⟨R, 1, none⟩ (.int .i64 b)).cell? ⟨R, 1, none⟩ = some (.int .i64 b) := blk_cell T2 1
      subst hue
      subst hif
      clear T1 T2 S1 S2 SS AF MF CF hT hA hL hM hZ hC BRr
      go_wp2_with fail
      generalize hwf : ((wr.setCell ⟨R, 0, none⟩ (.slice ua us.length uc)).setCell ⟨R, 1, none⟩ (.int .i64 b)) = wF at *
      refine bodyPost_ret (fn := Tryd.f70) (v := .agg #[.slice ua us.length uc, .int .i64 b]) (by simp [results, Tryd.results70, go_sem, z0, z1]) rfl ?_
      exact ⟨⟨_, rfl, F.out.1⟩, F.out.2⟩

theorem of04_all (n : Nat) (hn : n ≤ 1000000) : ∀ (f : Fs), f.size ≤ n → ∀ (v : Value) (b : Int) (X : Nat → Prop) (w : World), (∀ x, X x → x < w.heap.size) → Ts w X v f →
    Calls Tryd.prog 70 #[.agg #[v, .int .i64 b]] w fun e w' => (∃ v', e = .returned (.agg #[v', .int .i64 b]) ∧ Ts w' (fun x => w.heap.size ≤ x ∧ x < w'.heap.size) v' f) ∧ Chg (fun _ => False) w w' := by
  induction n with
  | zero => exact fun f hf => of04_step 0 hn (fun g hg => absurd hg (Nat.not_lt_zero _)) f hf
  | succ n ih => exact fun f hf => of04_step (n + 1) hn (fun g hg => ih (by omega) g (by omega)) f hf

theorem of04_any (f : Fs) (hf : f.size ≤ 1000000) (v : Value) (b : Int) (X : Nat → Prop) (w : World) (hX : ∀ x, X x → x < w.heap.size) (hv : Ts w X v f) :
    Calls Tryd.prog 70 #[.agg #[v, .int .i64 b]] w fun e w' => (∃ v', e = .returned (.agg #[v', .int .i64 b]) ∧ Ts w' (fun x => w.heap.size ≤ x ∧ x < w'.heap.size) v' f) ∧ Chg (fun _ => False) w w' :=
  of04_all f.size hf f (Nat.le_refl _) v b X w hX hv
end Go.Proofs.YtnpcapdlgcaniaaDoor
