/- L06.To, L06.Of: a term as new memory, of the other type. -/
import Derived.Test.YtnpcapdlgcaniaaDoorTypes
import Derived.Test.YtnpcapdlgcaniaaDoorClones
namespace Go.Proofs.YtnpcapdlgcaniaaDoor
open Go.RowKit
set_option linter.unusedVariables false
set_option linter.unusedSimpArgs false

theorem info27 : (Tryd.prog.info? 27).map (fun i => (i.zero, i.size, i.bytes)) = some (some (.agg #[.slice none 0 0, .int .i64 0, .int .i64 0, .slice none 0 0]), 4, 64) := by kernel_rfl
/-- what the loop keeps -/
def TInv (DT : TypeId) (w2 wr : World) (O bo : Nat) (vb : Value) (k i : Int) (f : Tms) (j : Nat) : Prop :=
  ∃ (u : Value) (us : List Tc), Hid (wr.heap[O]? = some (.cells #[vb, .int .i64 k, .int .i64 i, u] DT)) ∧ Hid (wr.ownsRow bo DT 4 u us.length (cellsT us)) ∧ Hid (us.length = j) ∧ Hid (SameT wr bo u f us) ∧ Hid (bo ≤ wr.heap.size) ∧ Hid (Chg (fun x => x = O) w2 wr)

def to06C (f : Tms) : Prop := ∀ (b : Fs) (k i : Int) (vb v : Value) (X : Nat → Prop) (w : World), b.size ≤ 40000 → f.len ≤ 1000000 → TOk f → (∀ x, X x → x < w.heap.size) → Ts w X vb b → Tr w X v f →
  Calls Tryd.prog 11 #[.agg #[vb, .int .i64 k, .int .i64 i, v]] w fun e w' => (∃ vb' v', e = .returned (.agg #[vb', .int .i64 k, .int .i64 i, v']) ∧ Ts w' (fun x => w.heap.size ≤ x ∧ x < w'.heap.size) vb' b ∧ Tr w' (fun x => w.heap.size ≤ x ∧ x < w'.heap.size) v' f) ∧ Chg (fun _ => False) w w'

set_option maxRecDepth 100000 in
set_option maxHeartbeats 32000000 in
theorem to06_step (n : Nat) (ih : ∀ (f : Tms), f.size < n → to06C f) (f : Tms) (hf : f.size ≤ n) : to06C f := by
  intro b k i vb v X w hbs hfl hok hB hvb hv
  obtain ⟨i0, hi0, hz0, hz1, hz2⟩ := info_parts info35
  have IH := hide ih
  have OK := hide hok
  have HBS := hide hbs
  have HFL := hide hfl
  obtain ⟨ba, bc, rfl, _⟩ := id hvb
  obtain ⟨av, cap, rfl, hx⟩ := id hv
  have HV := hide hv
  have HVB := hide hvb
  have HB := hide hB
  have htl := Tms.toL_len f
  have HF := hide hf
  have G1 := al w (.cells #[.slice ba b.len bc, .int .i64 k, .int .i64 i, .slice av f.len cap] 27)
  have b0 := blk_new w (.cells #[.slice ba b.len bc, .int .i64 k, .int .i64 i, .slice av f.len cap] 27)
  have G2 := al (w.alloc (.cells #[.slice ba b.len bc, .int .i64 k, .int .i64 i, .slice av f.len cap] 27)) (.cells #[.slice none 0 0, .int .i64 0, .int .i64 0, .slice none 0 0] 35)
  have b1 := blk_new (w.alloc (.cells #[.slice ba b.len bc, .int .i64 k, .int .i64 i, .slice av f.len cap] 27)) (.cells #[.slice none 0 0, .int .i64 0, .int .i64 0, .slice none 0 0] 35)
  have b0' := G2.blk (fun h => h) b0
  rw [al_sz] at b1
  have GG := hide (G1.trans G2)
  have sz2 : ((w.alloc (.cells #[.slice ba b.len bc, .int .i64 k, .int .i64 i, .slice av f.len cap] 27)).alloc (.cells #[.slice none 0 0, .int .i64 0, .int .i64 0, .slice none 0 0] 35)).heap.size = w.heap.size + 2 := by rw [al_sz, al_sz]
  have BP := hide b0'
  have BR := hide b1
  have SZ := hide sz2
  clear hx hv hvb ih hB hf G1 G2 b0 b1 b0' sz2 hok hbs hfl
  go_enter Tryd.func11, Tryd.ntmps11
  go_upto_region 1 with fail
  generalize ((w.alloc (.cells #[.slice ba b.len bc, .int .i64 k, .int .i64 i, .slice av f.len cap] 27)).alloc (.cells #[.slice none 0 0, .int .i64 0, .int .i64 0, .slice none 0 0] 35)) = w1 at *
  obtain ⟨P, hP⟩ : ∃ P, w.heap.size = P := ⟨_, rfl⟩
  obtain ⟨R, hR⟩ : ∃ R, P + 1 = R := ⟨_, rfl⟩
  have hZ := SZ.out
  rw [hP] at BP BR hZ ⊢
  rw [hR] at BR ⊢
  have HO1 : Hid (R < w1.heap.size ∧ P < R ∧ w.heap.size = P) := hide (by refine ⟨by omega, by omega, hP⟩)
  clear hP hR SZ hZ
  have p0 : w1.cell? ⟨P, 0, none⟩ = some (.slice ba b.len bc) := blk_cell BP.out 0
  have p1 : w1.cell? ⟨P, 1, none⟩ = some (.int .i64 k) := blk_cell BP.out 1
  have p2 : w1.cell? ⟨P, 2, none⟩ = some (.int .i64 i) := blk_cell BP.out 2
  go_cut [3] (fun s3 wx => ∃ (O : Nat) (ca : Option Addr) (cc : Nat), s3 = .pointer (some ⟨O, 0, none⟩) ∧ Hid (wx.heap[O]? = some (.cells #[.slice ca b.len cc, .int .i64 k, .int .i64 i, .slice none 0 0] 35)) ∧ Hid (Ts wx (fun x => w1.heap.size ≤ x ∧ x < wx.heap.size ∧ x ≠ O) (.slice ca b.len cc) b) ∧ Hid (Chg (fun _ => False) w1 wx) ∧ Hid (w1.heap.size ≤ O))
  case first =>
    have AR := hide (fun w' (g : Chg (fun _ => False) w1 w') => types_any b (by have := HBS.out; omega) (.slice ba b.len bc) X w' (fun x hx => Nat.lt_of_lt_of_le (HB.out x hx) (GG.out.trans g).size) (HVB.out.chg (GG.out.trans g) (fun _ _ h => h)))
    refine wp_region_held_drew (S := (fun w' => w'.cell? ⟨P, 0, none⟩ = some (.slice ba b.len bc) ∧ w'.cell? ⟨P, 1, none⟩ = some (.int .i64 k) ∧ w'.cell? ⟨P, 2, none⟩ = some (.int .i64 i))) (by kernel_rfl) (by go_keep) (fun hHeld => ?_)
    first
      | (refine wpAnyH_take (i := 0) (v := undef) rfl (by kernel_rfl) (by kernel_rfl) (by kernel_rfl) (fun _ _ _ h => h) (Or.inr ⟨by rfl, rfl⟩) (by assumption) ?_)
      | (refine wpAnyH_take (i := 0) (v := ?_) rfl (by kernel_rfl) (by kernel_rfl) (by kernel_rfl) (fun _ _ _ h => h) (Or.inl ⟨by rfl, ?_⟩) (by assumption) ?_
         rotate_left
         (intro w hSw
          (try dsimp only at hSw)
          (go_simp <;> with_reducible rfl)))
    try simp only [Act.put, List.getElem_toArray, List.getElem_cons_zero, List.getElem_cons_succ, List.setIfInBounds_toArray, List.set_cons_zero, List.set_cons_succ]
    first
      | (refine wpAnyH_take (i := 1) (v := undef) rfl (by kernel_rfl) (by kernel_rfl) (by kernel_rfl) (fun _ _ _ h => h) (Or.inr ⟨by rfl, rfl⟩) (by assumption) ?_)
      | (refine wpAnyH_take (i := 1) (v := ?_) rfl (by kernel_rfl) (by kernel_rfl) (by kernel_rfl) (fun _ _ _ h => h) (Or.inl ⟨by rfl, ?_⟩) (by assumption) ?_
         rotate_left
         (intro w hSw
          (try dsimp only at hSw)
          (go_simp <;> with_reducible rfl)))
    try simp only [Act.put, List.getElem_toArray, List.getElem_cons_zero, List.getElem_cons_succ, List.setIfInBounds_toArray, List.set_cons_zero, List.set_cons_succ]
    first
      | (refine wpAnyH_take (i := 3) (v := undef) rfl (by kernel_rfl) (by kernel_rfl) (by kernel_rfl) (fun _ _ _ h => h) (Or.inr ⟨by rfl, rfl⟩) (by assumption) ?_)
      | (refine wpAnyH_take (i := 3) (v := ?_) rfl (by kernel_rfl) (by kernel_rfl) (by kernel_rfl) (fun _ _ _ h => h) (Or.inl ⟨by rfl, ?_⟩) (by assumption) ?_
         rotate_left
         (intro w hSw
          (try dsimp only at hSw)
          (go_simp <;> with_reducible rfl)))
    try simp only [Act.put, List.getElem_toArray, List.getElem_cons_zero, List.getElem_cons_succ, List.setIfInBounds_toArray, List.set_cons_zero, List.set_cons_succ]
    first
      | (refine wpAnyH_take (i := 4) (v := undef) rfl (by kernel_rfl) (by kernel_rfl) (by kernel_rfl) (fun _ _ _ h => h) (Or.inr ⟨by rfl, rfl⟩) (by assumption) ?_)
      | (refine wpAnyH_take (i := 4) (v := ?_) rfl (by kernel_rfl) (by kernel_rfl) (by kernel_rfl) (fun _ _ _ h => h) (Or.inl ⟨by rfl, ?_⟩) (by assumption) ?_
         rotate_left
         (intro w hSw
          (try dsimp only at hSw)
          (go_simp <;> with_reducible rfl)))
    try simp only [Act.put, List.getElem_toArray, List.getElem_cons_zero, List.getElem_cons_succ, List.setIfInBounds_toArray, List.set_cons_zero, List.set_cons_succ]
    first
      | (refine wpAnyH_take (i := 5) (v := undef) rfl (by kernel_rfl) (by kernel_rfl) (by kernel_rfl) (fun _ _ _ h => h) (Or.inr ⟨by rfl, rfl⟩) (by assumption) ?_)
      | (refine wpAnyH_take (i := 5) (v := ?_) rfl (by kernel_rfl) (by kernel_rfl) (by kernel_rfl) (fun _ _ _ h => h) (Or.inl ⟨by rfl, ?_⟩) (by assumption) ?_
         rotate_left
         (intro w hSw
          (try dsimp only at hSw)
          (go_simp <;> with_reducible rfl)))
    try simp only [Act.put, List.getElem_toArray, List.getElem_cons_zero, List.getElem_cons_succ, List.setIfInBounds_toArray, List.set_cons_zero, List.set_cons_succ]
    first
      | (refine wpAnyH_take (i := 6) (v := undef) rfl (by kernel_rfl) (by kernel_rfl) (by kernel_rfl) (fun _ _ _ h => h) (Or.inr ⟨by rfl, rfl⟩) (by assumption) ?_)
      | (refine wpAnyH_take (i := 6) (v := ?_) rfl (by kernel_rfl) (by kernel_rfl) (by kernel_rfl) (fun _ _ _ h => h) (Or.inl ⟨by rfl, ?_⟩) (by assumption) ?_
         rotate_left
         (intro w hSw
          (try dsimp only at hSw)
          (go_simp <;> with_reducible rfl)))
    try simp only [Act.put, List.getElem_toArray, List.getElem_cons_zero, List.getElem_cons_succ, List.setIfInBounds_toArray, List.set_cons_zero, List.set_cons_succ]
    first
      | (refine wpAnyH_take (i := 7) (v := undef) rfl (by kernel_rfl) (by kernel_rfl) (by kernel_rfl) (fun _ _ _ h => h) (Or.inr ⟨by rfl, rfl⟩) (by assumption) ?_)
      | (refine wpAnyH_take (i := 7) (v := ?_) rfl (by kernel_rfl) (by kernel_rfl) (by kernel_rfl) (fun _ _ _ h => h) (Or.inl ⟨by rfl, ?_⟩) (by assumption) ?_
         rotate_left
         (intro w hSw
          (try dsimp only at hSw)
          (go_simp <;> with_reducible rfl)))
    try simp only [Act.put, List.getElem_toArray, List.getElem_cons_zero, List.getElem_cons_succ, List.setIfInBounds_toArray, List.set_cons_zero, List.set_cons_succ]
    first
      | (refine wpAnyH_take (i := 8) (v := undef) rfl (by kernel_rfl) (by kernel_rfl) (by kernel_rfl) (fun _ _ _ h => h) (Or.inr ⟨by rfl, rfl⟩) (by assumption) ?_)
      | (refine wpAnyH_take (i := 8) (v := ?_) rfl (by kernel_rfl) (by kernel_rfl) (by kernel_rfl) (fun _ _ _ h => h) (Or.inl ⟨by rfl, ?_⟩) (by assumption) ?_
         rotate_left
         (intro w hSw
          (try dsimp only at hSw)
          (go_simp <;> with_reducible rfl)))
    try simp only [Act.put, List.getElem_toArray, List.getElem_cons_zero, List.getElem_cons_succ, List.setIfInBounds_toArray, List.set_cons_zero, List.set_cons_succ]
    first
      | (refine wpAnyH_take (i := 9) (v := undef) rfl (by kernel_rfl) (by kernel_rfl) (by kernel_rfl) (fun _ _ _ h => h) (Or.inr ⟨by rfl, rfl⟩) (by assumption) ?_)
      | (refine wpAnyH_take (i := 9) (v := ?_) rfl (by kernel_rfl) (by kernel_rfl) (by kernel_rfl) (fun _ _ _ h => h) (Or.inl ⟨by rfl, ?_⟩) (by assumption) ?_
         rotate_left
         (intro w hSw
          (try dsimp only at hSw)
          (go_simp <;> with_reducible rfl)))
    try simp only [Act.put, List.getElem_toArray, List.getElem_cons_zero, List.getElem_cons_succ, List.setIfInBounds_toArray, List.set_cons_zero, List.set_cons_succ]
    refine wpAnyH_ready (rs := [2, 11]) (by kernel_rfl) (by simp) ?_
    refine AllReadyH.cons (i := 2) (o := _) rfl (fun K hK => ?_) ?_
    · go_simp
      refine (AR.out w1.drew ((Chg.refl (fun _ => False) w1).drew)).mono ?_
      rintro e w6 ⟨⟨v', rfl, t6⟩, g6'⟩
      obtain ⟨ca, cc, rfl, _⟩ := id t6
      have g6 := (Chg.refl (fun _ => False) w1).drew.trans g6'
      have p0a := g6.cell (fun h => h) p0
      have p1a := g6.cell (fun h => h) p1
      have p2a := g6.cell (fun h => h) p2
      have T6 := hide t6
      have G6 := hide g6
      clear t6 g6 g6'
      go_simp
      refine hK.out _ _ ⟨p0a, p1a, p2a⟩ (fun hHeld => ?_)
      clear hK K
      try simp only [Act.put, List.getElem_toArray, List.getElem_cons_zero, List.getElem_cons_succ, List.setIfInBounds_toArray, List.set_cons_zero, List.set_cons_succ]
      first
        | (refine wpAnyH_take (i := 10) (v := undef) rfl (by kernel_rfl) (by kernel_rfl) (by kernel_rfl) (fun _ _ _ h => h) (Or.inr ⟨by rfl, rfl⟩) (by assumption) ?_)
        | (refine wpAnyH_take (i := 10) (v := ?_) rfl (by kernel_rfl) (by kernel_rfl) (by kernel_rfl) (fun _ _ _ h => h) (Or.inl ⟨by rfl, ?_⟩) (by assumption) ?_
           rotate_left
           (intro w hSw
            (try dsimp only at hSw)
            (go_simp <;> with_reducible rfl)))
      try simp only [Act.put, List.getElem_toArray, List.getElem_cons_zero, List.getElem_cons_succ, List.setIfInBounds_toArray, List.set_cons_zero, List.set_cons_succ]
      refine wpAnyH_ready (rs := [11]) (by kernel_rfl) (by simp) ?_
      refine AllReadyH.cons (i := 11) (o := _) rfl (fun K hK => ?_) ?_
      rotate_left
      · exact AllReadyH.nil
      have GA := al w6 (.cells #[.slice none 0 0, .int .i64 0, .int .i64 0, .slice none 0 0] 35)
      have BO := hide (blk_new w6 (.cells #[.slice none 0 0, .int .i64 0, .int .i64 0, .slice none 0 0] 35))
      have p0b := GA.cell (fun h => h) p0a
      have p1b := GA.cell (fun h => h) p1a
      have p2b := GA.cell (fun h => h) p2a
      have T7 := hide (T6.out.chg GA (fun _ _ h => h))
      have G7 := hide (G6.out.trans GA)
      clear GA
      go_simp
      refine hK.out _ _ ⟨p0b, p1b, p2b⟩ (fun hHeld => ?_)
      clear hK K
      try simp only [Act.put, List.getElem_toArray, List.getElem_cons_zero, List.getElem_cons_succ, List.setIfInBounds_toArray, List.set_cons_zero, List.set_cons_succ]
      obtain ⟨O, hO⟩ : ∃ O, w6.heap.size = O := ⟨_, rfl⟩
      have HO7 := hide hO
      rw [hO] at BO ⊢
      clear hO
      generalize w6.alloc (.cells #[.slice none 0 0, .int .i64 0, .int .i64 0, .slice none 0 0] 35) = w7 at *
      have HPO : Hid (w1.heap.size ≤ O ∧ P < O ∧ w6.heap.size = O) := hide (by have := HO7.out; have := G6.out.size; have := HO1.out; omega)
      have HS7 : Hid (w6.heap.size ≤ w7.heap.size) := hide (by have := blk_lt BO.out; have := HO7.out; omega)
      refine wpAnyH_ready (rs := [12]) (by kernel_rfl) (by simp) ?_
      refine AllReadyH.cons (i := 12) (o := _) rfl (fun K hK => ?_) ?_
      rotate_left
      · exact AllReadyH.nil
      have b0 := blk_cell BO.out 0
      have ff0 := blk_free BO.out 0
      have b1 := blk_cell BO.out 1
      have ff1 := blk_free BO.out 1
      have b2 := blk_cell BO.out 2
      have ff2 := blk_free BO.out 2
      have b3 := blk_cell BO.out 3
      have ff3 := blk_free BO.out 3
      simp only [List.getElem?_toArray, List.getElem?_cons_zero, List.getElem?_cons_succ] at b0 b1 b2 b3
      go_simp
      have NS : Hid (((((w7.setCell ⟨O, 0, none⟩ (.slice ca b.len cc)).setCell ⟨O, 1, none⟩ (.int .i64 k)).setCell ⟨O, 2, none⟩ (.int .i64 i)).setCell ⟨O, 3, none⟩ (.slice none 0 0)).heap[O]? = some (.cells #[.slice ca b.len cc, .int .i64 k, .int .i64 i, .slice none 0 0] 35) ∧ Chg (fun x => x = O) w7 ((((w7.setCell ⟨O, 0, none⟩ (.slice ca b.len cc)).setCell ⟨O, 1, none⟩ (.int .i64 k)).setCell ⟨O, 2, none⟩ (.int .i64 i)).setCell ⟨O, 3, none⟩ (.slice none 0 0))) := hide ⟨(blk_set (blk_set (blk_set (blk_set BO.out 0 (.slice ca b.len cc)) 1 (.int .i64 k)) 2 (.int .i64 i)) 3 (.slice none 0 0)), ((((Chg.set w7 O 0 (.slice ca b.len cc)).trans (Chg.set (w7.setCell ⟨O, 0, none⟩ (.slice ca b.len cc)) O 1 (.int .i64 k))).trans (Chg.set ((w7.setCell ⟨O, 0, none⟩ (.slice ca b.len cc)).setCell ⟨O, 1, none⟩ (.int .i64 k)) O 2 (.int .i64 i))).trans (Chg.set (((w7.setCell ⟨O, 0, none⟩ (.slice ca b.len cc)).setCell ⟨O, 1, none⟩ (.int .i64 k)).setCell ⟨O, 2, none⟩ (.int .i64 i)) O 3 (.slice none 0 0)))⟩
      refine hK.out _ _ ⟨NS.out.2.cell (by have := HPO.out; omega) p0b, NS.out.2.cell (by have := HPO.out; omega) p1b, NS.out.2.cell (by have := HPO.out; omega) p2b⟩ (fun hHeld => ?_)
      clear hK K
      try simp only [Act.put, List.getElem_toArray, List.getElem_cons_zero, List.getElem_cons_succ, List.setIfInBounds_toArray, List.set_cons_zero, List.set_cons_succ]
      refine wpAnyH_done (by kernel_rfl) ?_ _
      go_wp2_with fail
      go_meet
      exact ⟨O, ca, cc, rfl, hide NS.out.1, hide ((T7.out.chg NS.out.2 (fun x hx e => by have := HPO.out; have := hx.2; omega)).up (fun x hx => ⟨hx.1, by have := NS.out.2.size; have := HS7.out; have := hx.2; omega, by have := HPO.out; have := hx.1; have := hx.2; omega⟩)), hide (((G7.out.mono (T := fun x => x = O) (fun x _ h => h.elim)).trans NS.out.2).mono (fun x hx e => by have := HPO.out; omega)), hide (by have := HPO.out; omega)⟩
    refine AllReadyH.cons (i := 11) (o := _) rfl (fun K hK => ?_) ?_
    rotate_left
    · exact AllReadyH.nil
    have GA := (al w1 (.cells #[.slice none 0 0, .int .i64 0, .int .i64 0, .slice none 0 0] 35)).drew
    have BO : Hid ((w1.alloc (.cells #[.slice none 0 0, .int .i64 0, .int .i64 0, .slice none 0 0] 35)).drew.heap[w1.heap.size]? = some (.cells #[.slice none 0 0, .int .i64 0, .int .i64 0, .slice none 0 0] 35)) := hide (blk_new w1 (.cells #[.slice none 0 0, .int .i64 0, .int .i64 0, .slice none 0 0] 35))
    have p0a := GA.cell (fun h => h) p0
    have p1a := GA.cell (fun h => h) p1
    have p2a := GA.cell (fun h => h) p2
    have G6 := hide GA
    clear GA
    go_simp
    refine hK.out _ _ ⟨p0a, p1a, p2a⟩ (fun hHeld => ?_)
    clear hK K
    try simp only [Act.put, List.getElem_toArray, List.getElem_cons_zero, List.getElem_cons_succ, List.setIfInBounds_toArray, List.set_cons_zero, List.set_cons_succ]
    obtain ⟨O, hO⟩ : ∃ O, w1.heap.size = O := ⟨_, rfl⟩
    have HO7 := hide hO
    rw [hO] at BO ⊢
    clear hO
    generalize (w1.alloc (.cells #[.slice none 0 0, .int .i64 0, .int .i64 0, .slice none 0 0] 35)).drew = w7 at *
    have HPO : Hid (w1.heap.size = O ∧ P < O ∧ O < w7.heap.size) := hide (by have h := HO7.out; have := HO1.out; have h3 := blk_lt BO.out; have h2 : w1.heap.size = O := h; omega)
    refine wpAnyH_ready (rs := [2]) (by kernel_rfl) (by simp) ?_
    refine AllReadyH.cons (i := 2) (o := _) rfl (fun K hK => ?_) ?_
    rotate_left
    · exact AllReadyH.nil
    go_simp
    refine (AR.out w7 G6.out).mono ?_
    rintro e w8 ⟨⟨v', rfl, t6⟩, g8⟩
    obtain ⟨ca, cc, rfl, _⟩ := id t6
    have p0b := g8.cell (fun h => h) p0a
    have p1b := g8.cell (fun h => h) p1a
    have p2b := g8.cell (fun h => h) p2a
    have BO := hide (g8.blk (fun h => h) BO.out)
    have T7 := hide t6
    have G7 := hide (G6.out.trans g8)
    clear t6 g8
    go_simp
    refine hK.out _ _ ⟨p0b, p1b, p2b⟩ (fun hHeld => ?_)
    clear hK K
    try simp only [Act.put, List.getElem_toArray, List.getElem_cons_zero, List.getElem_cons_succ, List.setIfInBounds_toArray, List.set_cons_zero, List.set_cons_succ]
    first
      | (refine wpAnyH_take (i := 10) (v := undef) rfl (by kernel_rfl) (by kernel_rfl) (by kernel_rfl) (fun _ _ _ h => h) (Or.inr ⟨by rfl, rfl⟩) (by assumption) ?_)
      | (refine wpAnyH_take (i := 10) (v := ?_) rfl (by kernel_rfl) (by kernel_rfl) (by kernel_rfl) (fun _ _ _ h => h) (Or.inl ⟨by rfl, ?_⟩) (by assumption) ?_
         rotate_left
         (intro w hSw
          (try dsimp only at hSw)
          (go_simp <;> with_reducible rfl)))
    try simp only [Act.put, List.getElem_toArray, List.getElem_cons_zero, List.getElem_cons_succ, List.setIfInBounds_toArray, List.set_cons_zero, List.set_cons_succ]
    have HS7 : Hid (w8.heap.size ≤ w8.heap.size) := hide (Nat.le_refl _)
    refine wpAnyH_ready (rs := [12]) (by kernel_rfl) (by simp) ?_
    refine AllReadyH.cons (i := 12) (o := _) rfl (fun K hK => ?_) ?_
    rotate_left
    · exact AllReadyH.nil
    have b0 := blk_cell BO.out 0
    have ff0 := blk_free BO.out 0
    have b1 := blk_cell BO.out 1
    have ff1 := blk_free BO.out 1
    have b2 := blk_cell BO.out 2
    have ff2 := blk_free BO.out 2
    have b3 := blk_cell BO.out 3
    have ff3 := blk_free BO.out 3
    simp only [List.getElem?_toArray, List.getElem?_cons_zero, List.getElem?_cons_succ] at b0 b1 b2 b3
    go_simp
    have NS : Hid (((((w8.setCell ⟨O, 0, none⟩ (.slice ca b.len cc)).setCell ⟨O, 1, none⟩ (.int .i64 k)).setCell ⟨O, 2, none⟩ (.int .i64 i)).setCell ⟨O, 3, none⟩ (.slice none 0 0)).heap[O]? = some (.cells #[.slice ca b.len cc, .int .i64 k, .int .i64 i, .slice none 0 0] 35) ∧ Chg (fun x => x = O) w8 ((((w8.setCell ⟨O, 0, none⟩ (.slice ca b.len cc)).setCell ⟨O, 1, none⟩ (.int .i64 k)).setCell ⟨O, 2, none⟩ (.int .i64 i)).setCell ⟨O, 3, none⟩ (.slice none 0 0))) := hide ⟨(blk_set (blk_set (blk_set (blk_set BO.out 0 (.slice ca b.len cc)) 1 (.int .i64 k)) 2 (.int .i64 i)) 3 (.slice none 0 0)), ((((Chg.set w8 O 0 (.slice ca b.len cc)).trans (Chg.set (w8.setCell ⟨O, 0, none⟩ (.slice ca b.len cc)) O 1 (.int .i64 k))).trans (Chg.set ((w8.setCell ⟨O, 0, none⟩ (.slice ca b.len cc)).setCell ⟨O, 1, none⟩ (.int .i64 k)) O 2 (.int .i64 i))).trans (Chg.set (((w8.setCell ⟨O, 0, none⟩ (.slice ca b.len cc)).setCell ⟨O, 1, none⟩ (.int .i64 k)).setCell ⟨O, 2, none⟩ (.int .i64 i)) O 3 (.slice none 0 0)))⟩
    refine hK.out _ _ ⟨NS.out.2.cell (by have := HPO.out; omega) p0b, NS.out.2.cell (by have := HPO.out; omega) p1b, NS.out.2.cell (by have := HPO.out; omega) p2b⟩ (fun hHeld => ?_)
    clear hK K
    try simp only [Act.put, List.getElem_toArray, List.getElem_cons_zero, List.getElem_cons_succ, List.setIfInBounds_toArray, List.set_cons_zero, List.set_cons_succ]
    refine wpAnyH_done (by kernel_rfl) ?_ _
    go_wp2_with fail
    go_meet
    exact ⟨O, ca, cc, rfl, hide NS.out.1, hide ((T7.out.chg NS.out.2 (fun x hx e => by have := HPO.out; have := hx.1; omega)).up (fun x hx => ⟨by have := HPO.out; have := hx.1; omega, by have := NS.out.2.size; have := HS7.out; have := hx.2; omega, by have := HPO.out; have := hx.1; have := hx.2; omega⟩)), hide (((G7.out.mono (T := fun x => x = O) (fun x _ h => h.elim)).trans NS.out.2).mono (fun x hx e => by have := HPO.out; omega)), hide (by have := HPO.out; omega)⟩
  case rest =>
  obtain ⟨O, ca, cc, rfl, BO, TB, GW, OW⟩ := hcut
  clear p0 p1 p2
  generalize wc = w3 at *
  have BP3 := hide (GW.out.blk (fun h => h) BP.out)
  have BR3 := hide (GW.out.blk (fun h => h) BR.out)
  have TB3 := TB
  clear BP BR
  obtain ⟨bo, hbo⟩ : ∃ bo, w3.heap.size = bo := ⟨_, rfl⟩
  have HS := hide hbo
  have HO : Hid (P < R ∧ R < O ∧ O < bo ∧ w1.heap.size ≤ O ∧ w.heap.size = P) := hide (by have := HO1.out; have := blk_lt BO.out; have := OW.out; omega)
  have G3 : Hid (Chg (fun x => x = O) w w3) := hide ((GG.out.trans GW.out).none)
  clear hbo
  go_wp2_with fail
  go_loopw [4] (fun jv wr => ∃ (j : Nat), j ≤ f.len ∧ jv = .int .i64 j ∧ Hid (TInv 35 w3 wr O bo (.slice ca b.len cc) k i f j)) (fun jv _ => f.len - (intOf jv).toNat)
  case atStart => exact ⟨0, Nat.zero_le _, rfl, hide ⟨_, [], BO, hide ⟨rfl, Or.inl ⟨rfl, rfl⟩⟩, hide rfl, hide (SameT.nil _ _ _ _), hide (Nat.le_of_eq HS.out.symm), hide (Chg.refl _ _)⟩⟩
  case round =>
    obtain ⟨j, hj, rfl, hIN⟩ := hrel
    obtain ⟨u, us, hT, hA, hL, hM, hZ, hC⟩ := hIN.out
    clear hIN BO
    have p3 : wr.cell? ⟨P, 3, none⟩ = some (.slice av f.len cap) := blk_cell (hC.out.blk (by have := HO.out; omega) BP3.out) 3
    by_cases hlt : j < f.len
    · have hit : j < f.toL.length := by omega
      obtain ⟨la, lc, hlv, hl⟩ := HV.out
      rcases hl with h0 | ⟨g, off, rfl, hg, hl⟩
      · subst h0; exact absurd hlt (Nat.not_lt_zero _)
      injection hlv with e1 e2 e3
      subst e1 e3
      obtain ⟨⟨vkb, c0, tb⟩, c1, c2, vi, c3, ti⟩ := tlies_get hl j hit
      obtain ⟨kba, kbc, rfl, _⟩ := id tb
      obtain ⟨ka, kc, rfl, _⟩ := id ti
      have hks := Tms.kid_size f j hit
      have hok := tok_get OK.out j hit
      have WC : Chg (fun x => x = O) w wr := G3.out.trans hC.out
      have nO : ∀ x, X x → ¬ x = O := fun x hx e => by have := HB.out x hx; have := HO.out; omega
      have y0 := WC.cell (nO g hg) c0
      have y1 := WC.cell (nO g hg) c1
      have y2 := WC.cell (nO g hg) c2
      have y3 := WC.cell (nO g hg) c3
      have y4 := p3
      have ti5 := hide (ti.chg WC nO)
      have tb5 := hide (tb.chg WC nO)
      have HG : Hid (g < P ∧ g ≠ O) := hide (by have := HB.out g hg; have := HO.out; omega)
      have BW := hide (fun x (hx : X x) => Nat.lt_of_lt_of_le (HB.out x hx) WC.size)
      have KJ := hide (IH.out (f.toL[j]).ag (by have := HF.out; omega) (f.toL[j]).bs (f.toL[j]).kd (f.toL[j]).ix _ _ X wr.drew hok.1 hok.2.2.1 hok.2.2.2 BW.out (tb5.out.chg (Chg.refl (fun _ => False) wr).drew (fun _ _ h => h)) (ti5.out.chg (Chg.refl (fun _ => False) wr).drew (fun _ _ h => h)))
      have SN := hide (fun (w' : World) (vb' v' : Value) (h : SameT w' bo u f us) (hvb' : Ts w' (fun x => bo ≤ x ∧ x < w'.heap.size ∧ u.ownBlock ≠ some x) vb' (f.toL[j]).bs) (hv' : Tr w' (fun x => bo ≤ x ∧ x < w'.heap.size ∧ u.ownBlock ≠ some x) v' (f.toL[j]).ag) => h.snoc hit hL.out (p := (vb', (f.toL[j]).kd, (f.toL[j]).ix, v')) ⟨hvb', rfl, rfl, hv'⟩)
      have RL := hide (fun r (e : u.ownBlock = some r) => World.ownsRow.lt hA.out r e)
      have i1 : (0 : Int) ≤ (j : Int) := by omega
      have i2 : (j : Int) < (f.len : Int) := by omega
      have i3 : f.len ≤ 1000000 := HFL.out
      have hus : us.length ≤ 1000001 := by have := hL.out; omega
      have HUL := hide hL.out
      clear hl c0 c1 c2 c3 ti tb hks WC nO hok p3 ti5 tb5 BW
      dsimp only [Tm.bs, Tm.kd, Tm.ix, Tm.ag] at y0 y1 y2 y3 KJ SN
      generalize (f.toL[j]).1 = k0 at *
      generalize (f.toL[j]).2.1 = k1 at *
      generalize (f.toL[j]).2.2.1 = k2 at *
      generalize (f.toL[j]).2.2.2 = k3 at *
      have zO := blk_cell hT.out 3
      simp only [List.getElem?_toArray, List.getElem?_cons_zero, List.getElem?_cons_succ] at zO
      have EO : Hid (∀ r, u.ownBlock = some r → ¬ r = P ∧ ¬ r = g) := hide (fun r e => by have := (RL.out r e).1; have := HO.out; have := HG.out; omega)
      go_upto_region 5 with fail
      generalize wr = wE at *
      refine wp_region_held_drew (S := (fun w' => w'.cell? ⟨g, off + j * 4, none⟩ = some (.slice kba k0.len kbc) ∧ w'.cell? ⟨g, off + j * 4 + 1, none⟩ = some (.int .i64 k1) ∧ w'.cell? ⟨g, off + j * 4 + 2, none⟩ = some (.int .i64 k2) ∧ w'.cell? ⟨g, off + j * 4 + 3, none⟩ = some (.slice ka k3.len kc) ∧ w'.cell? ⟨P, 3, none⟩ = some (.slice (some ⟨g, off, none⟩) f.len cap))) (by kernel_rfl) (by go_keep) (fun hHeld => ?_)
      first
        | (refine wpAnyH_take (i := 0) (v := undef) rfl (by kernel_rfl) (by kernel_rfl) (by kernel_rfl) (fun _ _ _ h => h) (Or.inr ⟨by rfl, rfl⟩) (by assumption) ?_)
        | (refine wpAnyH_take (i := 0) (v := ?_) rfl (by kernel_rfl) (by kernel_rfl) (by kernel_rfl) (fun _ _ _ h => h) (Or.inl ⟨by rfl, ?_⟩) (by assumption) ?_
           rotate_left
           (intro w hSw
            (try dsimp only at hSw)
            (go_simp <;> with_reducible rfl)))
      try simp only [Act.put, List.getElem_toArray, List.getElem_cons_zero, List.getElem_cons_succ, List.setIfInBounds_toArray, List.set_cons_zero, List.set_cons_succ]
      first
        | (refine wpAnyH_take (i := 2) (v := undef) rfl (by kernel_rfl) (by kernel_rfl) (by kernel_rfl) (fun _ _ _ h => h) (Or.inr ⟨by rfl, rfl⟩) (by assumption) ?_)
        | (refine wpAnyH_take (i := 2) (v := ?_) rfl (by kernel_rfl) (by kernel_rfl) (by kernel_rfl) (fun _ _ _ h => h) (Or.inl ⟨by rfl, ?_⟩) (by assumption) ?_
           rotate_left
           (intro w hSw
            (try dsimp only at hSw)
            (go_simp <;> with_reducible rfl)))
      try simp only [Act.put, List.getElem_toArray, List.getElem_cons_zero, List.getElem_cons_succ, List.setIfInBounds_toArray, List.set_cons_zero, List.set_cons_succ]
      first
        | (refine wpAnyH_take (i := 3) (v := undef) rfl (by kernel_rfl) (by kernel_rfl) (by kernel_rfl) (fun _ _ _ h => h) (Or.inr ⟨by rfl, rfl⟩) (by assumption) ?_)
        | (refine wpAnyH_take (i := 3) (v := ?_) rfl (by kernel_rfl) (by kernel_rfl) (by kernel_rfl) (fun _ _ _ h => h) (Or.inl ⟨by rfl, ?_⟩) (by assumption) ?_
           rotate_left
           (intro w hSw
            (try dsimp only at hSw)
            (go_simp <;> with_reducible rfl)))
      try simp only [Act.put, List.getElem_toArray, List.getElem_cons_zero, List.getElem_cons_succ, List.setIfInBounds_toArray, List.set_cons_zero, List.set_cons_succ]
      first
        | (refine wpAnyH_take (i := 4) (v := undef) rfl (by kernel_rfl) (by kernel_rfl) (by kernel_rfl) (fun _ _ _ h => h) (Or.inr ⟨by rfl, rfl⟩) (by assumption) ?_)
        | (refine wpAnyH_take (i := 4) (v := ?_) rfl (by kernel_rfl) (by kernel_rfl) (by kernel_rfl) (fun _ _ _ h => h) (Or.inl ⟨by rfl, ?_⟩) (by assumption) ?_
           rotate_left
           (intro w hSw
            (try dsimp only at hSw)
            (go_simp <;> with_reducible rfl)))
      try simp only [Act.put, List.getElem_toArray, List.getElem_cons_zero, List.getElem_cons_succ, List.setIfInBounds_toArray, List.set_cons_zero, List.set_cons_succ]
      first
        | (refine wpAnyH_take (i := 5) (v := undef) rfl (by kernel_rfl) (by kernel_rfl) (by kernel_rfl) (fun _ _ _ h => h) (Or.inr ⟨by rfl, rfl⟩) (by assumption) ?_)
        | (refine wpAnyH_take (i := 5) (v := ?_) rfl (by kernel_rfl) (by kernel_rfl) (by kernel_rfl) (fun _ _ _ h => h) (Or.inl ⟨by rfl, ?_⟩) (by assumption) ?_
           rotate_left
           (intro w hSw
            (try dsimp only at hSw)
            (go_simp <;> with_reducible rfl)))
      try simp only [Act.put, List.getElem_toArray, List.getElem_cons_zero, List.getElem_cons_succ, List.setIfInBounds_toArray, List.set_cons_zero, List.set_cons_succ]
      first
        | (refine wpAnyH_take (i := 6) (v := undef) rfl (by kernel_rfl) (by kernel_rfl) (by kernel_rfl) (fun _ _ _ h => h) (Or.inr ⟨by rfl, rfl⟩) (by assumption) ?_)
        | (refine wpAnyH_take (i := 6) (v := ?_) rfl (by kernel_rfl) (by kernel_rfl) (by kernel_rfl) (fun _ _ _ h => h) (Or.inl ⟨by rfl, ?_⟩) (by assumption) ?_
           rotate_left
           (intro w hSw
            (try dsimp only at hSw)
            (go_simp <;> with_reducible rfl)))
      try simp only [Act.put, List.getElem_toArray, List.getElem_cons_zero, List.getElem_cons_succ, List.setIfInBounds_toArray, List.set_cons_zero, List.set_cons_succ]
      refine wpAnyH_ready (rs := [1, 7]) (by kernel_rfl) (by simp) ?_
      refine AllReadyH.cons (i := 1) (o := _) rfl (fun K hK => ?_) ?_
      · go_simp
        refine hK.out _ _ ⟨y0, y1, y2, y3, y4⟩ (fun hHeld => ?_)
        clear hK K
        try simp only [Act.put, List.getElem_toArray, List.getElem_cons_zero, List.getElem_cons_succ, List.setIfInBounds_toArray, List.set_cons_zero, List.set_cons_succ]
        refine wpAnyH_ready (rs := [7]) (by kernel_rfl) (by simp) ?_
        refine AllReadyH.cons (i := 7) (o := _) rfl (fun K hK => ?_) ?_
        rotate_left
        · exact AllReadyH.nil
        go_simp
        refine KJ.out.mono ?_
        rintro e w6 ⟨⟨vb', v', rfl, tb6, t6⟩, g6'⟩
        obtain ⟨vba, vbc, rfl, _⟩ := id tb6
        obtain ⟨va, vc, rfl, _⟩ := id t6
        have g6 := (Chg.refl (fun _ => False) wE).drew.trans g6'
        have y06 := g6.cell (fun h => h) y0
        have y16 := g6.cell (fun h => h) y1
        have y26 := g6.cell (fun h => h) y2
        have y36 := g6.cell (fun h => h) y3
        have y46 := g6.cell (fun h => h) y4
        have zO6 := g6.cell (fun h => h) zO
        have G7 := al w6 (.cells #[.slice vba k0.len vbc, .int .i64 k1, .int .i64 k2, .slice va k3.len vc] 35)
        have y07 := G7.cell (fun h => h) y06
        have y17 := G7.cell (fun h => h) y16
        have y27 := G7.cell (fun h => h) y26
        have y37 := G7.cell (fun h => h) y36
        have y47 := G7.cell (fun h => h) y46
        have zO7 := G7.cell (fun h => h) zO6
        have HT7 := hide (G7.blk (fun h => h) (g6.blk (fun h => h) hT.out))
        have A7 := hide (own_chg (own_chg hA.out g6 (fun x hx h => h)) G7 (fun x hx h => h))
        have M7 := (hM.out.chg g6 (fun _ _ _ _ h => h)).chg G7 (fun _ _ _ _ h => h)
        have C7 := hide ((hC.out.trans g6.none).trans G7.none)
        have T7 := (t6.chg G7 (fun _ _ h => h)).up (Y := fun x => bo ≤ x ∧ x < (w6.alloc (.cells #[.slice vba k0.len vbc, .int .i64 k1, .int .i64 k2, .slice va k3.len vc] 35)).heap.size ∧ u.ownBlock ≠ some x) (fun x hx => ⟨Nat.le_trans hZ.out hx.1, Nat.lt_of_lt_of_le hx.2 G7.size, fun e => by have h1 := (RL.out x e).2; have h3 : wE.heap.size ≤ x := hx.1; omega⟩)
        have TB7 := (tb6.chg G7 (fun _ _ h => h)).up (Y := fun x => bo ≤ x ∧ x < (w6.alloc (.cells #[.slice vba k0.len vbc, .int .i64 k1, .int .i64 k2, .slice va k3.len vc] 35)).heap.size ∧ u.ownBlock ≠ some x) (fun x hx => ⟨Nat.le_trans hZ.out hx.1, Nat.lt_of_lt_of_le hx.2 G7.size, fun e => by have h1 := (RL.out x e).2; have h3 : wE.heap.size ≤ x := hx.1; omega⟩)
        have N7 := hide (SN.out _ _ _ M7 TB7 T7)
        have Z7 := hide (Nat.le_trans hZ.out (Nat.le_trans g6.size G7.size))
        have NB := hide (World.news_of_block (cs := #[.slice vba k0.len vbc, .int .i64 k1, .int .i64 k2, .slice va k3.len vc]) (t := 35) (fr := (0, 0)) (heap_alloc_new w6 _))
        clear t6 tb6 g6 g6' G7 M7 T7 TB7
        go_simp
        refine hK.out _ _ ⟨y06, y16, y26, y36, y46⟩ (fun hHeld => ?_)
        clear hK K
        try simp only [Act.put, List.getElem_toArray, List.getElem_cons_zero, List.getElem_cons_succ, List.setIfInBounds_toArray, List.set_cons_zero, List.set_cons_succ]
        refine wpAnyH_ready (rs := [8]) (by kernel_rfl) (by simp) ?_
        refine AllReadyH.cons (i := 8) (o := _) rfl (fun K hK => ?_) ?_
        rotate_left
        · exact AllReadyH.nil
        go_simp
        refine hK.out _ _ ⟨y07, y17, y27, y37, y47⟩ (fun hHeld => ?_)
        clear hK K
        try simp only [Act.put, List.getElem_toArray, List.getElem_cons_zero, List.getElem_cons_succ, List.setIfInBounds_toArray, List.set_cons_zero, List.set_cons_succ]
        refine wpAnyH_ready (rs := [9]) (by kernel_rfl) (by simp) ?_
        refine AllReadyH.cons (i := 9) (o := _) rfl (fun K hK => ?_) ?_
        rotate_left
        · exact AllReadyH.nil
        refine step_append_lies _ (by rfl) _ _ _ (by rfl) bo 35 i0 (.agg #[.slice none 0 0, .int .i64 0, .int .i64 0, .slice none 0 0]) 4 64 Tryd.underlying33 hi0 hz0 hz1 hz2 rfl (by omega) _ us.length (cellsT us) (by rfl) A7.out ⟨w6.heap.size, 0, none⟩ 1 1 [.slice vba k0.len vbc, .int .i64 k1, .int .i64 k2, .slice va k3.len vc] (by rfl) (by rfl) NB.out (by simp [Value.oneCell']) (by omega) (by simp [maxLen]; omega) (by omega) Z7.out (w6.heap.size + 1) (by simp) ?_
        intro gg cap2 w8 hown hgrow hgat hglt
        have GR := (Chg.refl (fun x => u.ownBlock = some x) (w6.alloc (.cells #[.slice vba k0.len vbc, .int .i64 k1, .int .i64 k2, .slice va k3.len vc] 35))).grown hgrow (fun r e => Or.inl e)
        have nE : ¬ u.ownBlock = some g := fun e => (EO.out g e).2 rfl
        have nP : ¬ u.ownBlock = some P := fun e => (EO.out P e).1 rfl
        have nO : ¬ u.ownBlock = some O := fun e => by have := (RL.out O e).1; have := HO.out; omega
        have T8 := GR.blk nO HT7.out
        have fO8 := blk_free T8 3
        have zO8 := blk_cell T8 3
        simp only [List.getElem?_toArray, List.getElem?_cons_zero, List.getElem?_cons_succ] at zO8
        have y08 := GR.cell nE y07
        have y18 := GR.cell nE y17
        have y28 := GR.cell nE y27
        have y38 := GR.cell nE y37
        have y48 := GR.cell nP y47
        have M8 := N7.out.grown hgrow (u' := .slice (some ⟨gg, 0, none⟩) (us.length + 1) cap2) (by rcases hgat with h | h; exact Or.inl (by rw [h]; rfl); exact Or.inr (by rw [h, al_sz]; rfl))
        have G9 := Chg.set w8 O 3 (.slice (some ⟨gg, 0, none⟩) (us.length + 1) cap2)
        have T9 : Hid ((w8.setCell ⟨O, 3, none⟩ (.slice (some ⟨gg, 0, none⟩) (us.length + 1) cap2)).heap[O]? = some (.cells #[.slice ca b.len cc, .int .i64 k, .int .i64 i, .slice (some ⟨gg, 0, none⟩) (us.length + 1) cap2] 35)) := hide (blk_set T8 3 (.slice (some ⟨gg, 0, none⟩) (us.length + 1) cap2))
        have A9 := hide (tmacc_snoc (p := (.slice vba k0.len vbc, k1, k2, .slice va k3.len vc)) (own_chg hown G9 (fun x hx e => by have := HO.out; omega)))
        have M9 := hide (M8.chg G9 (fun x hx _ _ e => by have := HO.out; omega))
        have Z9 := hide (Nat.le_trans Z7.out (Nat.le_trans GR.size G9.size))
        have C9 : Hid (Chg (fun x => x = O) w3 (w8.setCell ⟨O, 3, none⟩ (.slice (some ⟨gg, 0, none⟩) (us.length + 1) cap2))) := hide (by
          have h1 : Chg (fun x => x = O ∨ bo ≤ x) w3 _ := ((C7.out.mono (fun x _ h => Or.inl h)).trans (GR.mono (fun x _ h => Or.inr (RL.out x h).1))).trans (G9.mono (fun x _ h => Or.inl h))
          exact h1.mono (fun x hx h => by have := HS.out; omega))
        have y09 := G9.cell (by have := HG.out; have := HO.out; omega) y08
        have y19 := G9.cell (by have := HG.out; have := HO.out; omega) y18
        have y29 := G9.cell (by have := HG.out; have := HO.out; omega) y28
        have y39 := G9.cell (by have := HG.out; have := HO.out; omega) y38
        have y49 := G9.cell (by have := HG.out; have := HO.out; omega) y48
        have HL9 : Hid ((us ++ [((.slice vba k0.len vbc, k1, k2, .slice va k3.len vc) : Tc)]).length = j + 1) := hide (by rw [List.length_append, HUL.out]; rfl)
        have F9 : Hid (TInv 35 w3 (w8.setCell ⟨O, 3, none⟩ (.slice (some ⟨gg, 0, none⟩) (us.length + 1) cap2)) O bo (.slice ca b.len cc) k i f (j + 1)) := hide ⟨_, us ++ [(.slice vba k0.len vbc, k1, k2, .slice va k3.len vc)], T9, A9, HL9, M9, Z9, C9⟩
        clear GR T8 M8 G9 hown hgrow hgat nE nO T9 A9 HL9 M9 Z9 C9
        refine hK.out _ _ ⟨y08, y18, y28, y38, y48⟩ (fun hHeld => ?_)
        clear hK K
        try simp only [Act.put, List.getElem_toArray, List.getElem_cons_zero, List.getElem_cons_succ, List.setIfInBounds_toArray, List.set_cons_zero, List.set_cons_succ]
        first
          | (refine wpAnyH_take (i := 10) (v := undef) rfl (by kernel_rfl) (by kernel_rfl) (by kernel_rfl) (fun _ _ _ h => h) (Or.inr ⟨by rfl, rfl⟩) (by assumption) ?_)
          | (refine wpAnyH_take (i := 10) (v := ?_) rfl (by kernel_rfl) (by kernel_rfl) (by kernel_rfl) (fun _ _ _ h => h) (Or.inl ⟨by rfl, ?_⟩) (by assumption) ?_
             rotate_left
             (intro w hSw
              (try dsimp only at hSw)
              (go_simp <;> with_reducible rfl)))
        try simp only [Act.put, List.getElem_toArray, List.getElem_cons_zero, List.getElem_cons_succ, List.setIfInBounds_toArray, List.set_cons_zero, List.set_cons_succ]
        refine wpAnyH_ready (rs := [11]) (by kernel_rfl) (by simp) ?_
        refine AllReadyH.cons (i := 11) (o := _) rfl (fun K hK => ?_) ?_
        rotate_left
        · exact AllReadyH.nil
        go_simp
        refine hK.out _ _ ⟨y09, y19, y29, y39, y49⟩ (fun hHeld => ?_)
        clear hK K
        try simp only [Act.put, List.getElem_toArray, List.getElem_cons_zero, List.getElem_cons_succ, List.setIfInBounds_toArray, List.set_cons_zero, List.set_cons_succ]
        refine wpAnyH_done (by kernel_rfl) ?_ _
        go_wp2_with fail
        go_roundw
        case rel => exact ⟨j + 1, by omega, by go_num, F9⟩
        case measure => simp [intOf]; omega
      refine AllReadyH.cons (i := 7) (o := _) rfl (fun K hK => ?_) ?_
      rotate_left
      · exact AllReadyH.nil
      go_simp
      refine KJ.out.mono ?_
      rintro e w6 ⟨⟨vb', v', rfl, tb6, t6⟩, g6'⟩
      obtain ⟨vba, vbc, rfl, _⟩ := id tb6
      obtain ⟨va, vc, rfl, _⟩ := id t6
      have g6 := (Chg.refl (fun _ => False) wE).drew.trans g6'
      have y06 := g6.cell (fun h => h) y0
      have y16 := g6.cell (fun h => h) y1
      have y26 := g6.cell (fun h => h) y2
      have y36 := g6.cell (fun h => h) y3
      have y46 := g6.cell (fun h => h) y4
      have zO6 := g6.cell (fun h => h) zO
      have G7 := al w6 (.cells #[.slice vba k0.len vbc, .int .i64 k1, .int .i64 k2, .slice va k3.len vc] 35)
      have y07 := G7.cell (fun h => h) y06
      have y17 := G7.cell (fun h => h) y16
      have y27 := G7.cell (fun h => h) y26
      have y37 := G7.cell (fun h => h) y36
      have y47 := G7.cell (fun h => h) y46
      have zO7 := G7.cell (fun h => h) zO6
      have HT7 := hide (G7.blk (fun h => h) (g6.blk (fun h => h) hT.out))
      have A7 := hide (own_chg (own_chg hA.out g6 (fun x hx h => h)) G7 (fun x hx h => h))
      have M7 := (hM.out.chg g6 (fun _ _ _ _ h => h)).chg G7 (fun _ _ _ _ h => h)
      have C7 := hide ((hC.out.trans g6.none).trans G7.none)
      have T7 := (t6.chg G7 (fun _ _ h => h)).up (Y := fun x => bo ≤ x ∧ x < (w6.alloc (.cells #[.slice vba k0.len vbc, .int .i64 k1, .int .i64 k2, .slice va k3.len vc] 35)).heap.size ∧ u.ownBlock ≠ some x) (fun x hx => ⟨Nat.le_trans hZ.out hx.1, Nat.lt_of_lt_of_le hx.2 G7.size, fun e => by have h1 := (RL.out x e).2; have h3 : wE.heap.size ≤ x := hx.1; omega⟩)
      have TB7 := (tb6.chg G7 (fun _ _ h => h)).up (Y := fun x => bo ≤ x ∧ x < (w6.alloc (.cells #[.slice vba k0.len vbc, .int .i64 k1, .int .i64 k2, .slice va k3.len vc] 35)).heap.size ∧ u.ownBlock ≠ some x) (fun x hx => ⟨Nat.le_trans hZ.out hx.1, Nat.lt_of_lt_of_le hx.2 G7.size, fun e => by have h1 := (RL.out x e).2; have h3 : wE.heap.size ≤ x := hx.1; omega⟩)
      have N7 := hide (SN.out _ _ _ M7 TB7 T7)
      have Z7 := hide (Nat.le_trans hZ.out (Nat.le_trans g6.size G7.size))
      have NB := hide (World.news_of_block (cs := #[.slice vba k0.len vbc, .int .i64 k1, .int .i64 k2, .slice va k3.len vc]) (t := 35) (fr := (0, 0)) (heap_alloc_new w6 _))
      clear t6 tb6 g6 g6' G7 M7 T7 TB7
      go_simp
      refine hK.out _ _ ⟨y06, y16, y26, y36, y46⟩ (fun hHeld => ?_)
      clear hK K
      try simp only [Act.put, List.getElem_toArray, List.getElem_cons_zero, List.getElem_cons_succ, List.setIfInBounds_toArray, List.set_cons_zero, List.set_cons_succ]
      refine wpAnyH_ready (rs := [1, 8]) (by kernel_rfl) (by simp) ?_
      refine AllReadyH.cons (i := 1) (o := _) rfl (fun K hK => ?_) ?_
      · go_simp
        refine hK.out _ _ ⟨y06, y16, y26, y36, y46⟩ (fun hHeld => ?_)
        clear hK K
        try simp only [Act.put, List.getElem_toArray, List.getElem_cons_zero, List.getElem_cons_succ, List.setIfInBounds_toArray, List.set_cons_zero, List.set_cons_succ]
        refine wpAnyH_ready (rs := [8]) (by kernel_rfl) (by simp) ?_
        refine AllReadyH.cons (i := 8) (o := _) rfl (fun K hK => ?_) ?_
        rotate_left
        · exact AllReadyH.nil
        go_simp
        refine hK.out _ _ ⟨y07, y17, y27, y37, y47⟩ (fun hHeld => ?_)
        clear hK K
        try simp only [Act.put, List.getElem_toArray, List.getElem_cons_zero, List.getElem_cons_succ, List.setIfInBounds_toArray, List.set_cons_zero, List.set_cons_succ]
        refine wpAnyH_ready (rs := [9]) (by kernel_rfl) (by simp) ?_
        refine AllReadyH.cons (i := 9) (o := _) rfl (fun K hK => ?_) ?_
        rotate_left
        · exact AllReadyH.nil
        refine step_append_lies _ (by rfl) _ _ _ (by rfl) bo 35 i0 (.agg #[.slice none 0 0, .int .i64 0, .int .i64 0, .slice none 0 0]) 4 64 Tryd.underlying33 hi0 hz0 hz1 hz2 rfl (by omega) _ us.length (cellsT us) (by rfl) A7.out ⟨w6.heap.size, 0, none⟩ 1 1 [.slice vba k0.len vbc, .int .i64 k1, .int .i64 k2, .slice va k3.len vc] (by rfl) (by rfl) NB.out (by simp [Value.oneCell']) (by omega) (by simp [maxLen]; omega) (by omega) Z7.out (w6.heap.size + 1) (by simp) ?_
        intro gg cap2 w8 hown hgrow hgat hglt
        have GR := (Chg.refl (fun x => u.ownBlock = some x) (w6.alloc (.cells #[.slice vba k0.len vbc, .int .i64 k1, .int .i64 k2, .slice va k3.len vc] 35))).grown hgrow (fun r e => Or.inl e)
        have nE : ¬ u.ownBlock = some g := fun e => (EO.out g e).2 rfl
        have nP : ¬ u.ownBlock = some P := fun e => (EO.out P e).1 rfl
        have nO : ¬ u.ownBlock = some O := fun e => by have := (RL.out O e).1; have := HO.out; omega
        have T8 := GR.blk nO HT7.out
        have fO8 := blk_free T8 3
        have zO8 := blk_cell T8 3
        simp only [List.getElem?_toArray, List.getElem?_cons_zero, List.getElem?_cons_succ] at zO8
        have y08 := GR.cell nE y07
        have y18 := GR.cell nE y17
        have y28 := GR.cell nE y27
        have y38 := GR.cell nE y37
        have y48 := GR.cell nP y47
        have M8 := N7.out.grown hgrow (u' := .slice (some ⟨gg, 0, none⟩) (us.length + 1) cap2) (by rcases hgat with h | h; exact Or.inl (by rw [h]; rfl); exact Or.inr (by rw [h, al_sz]; rfl))
        have G9 := Chg.set w8 O 3 (.slice (some ⟨gg, 0, none⟩) (us.length + 1) cap2)
        have T9 : Hid ((w8.setCell ⟨O, 3, none⟩ (.slice (some ⟨gg, 0, none⟩) (us.length + 1) cap2)).heap[O]? = some (.cells #[.slice ca b.len cc, .int .i64 k, .int .i64 i, .slice (some ⟨gg, 0, none⟩) (us.length + 1) cap2] 35)) := hide (blk_set T8 3 (.slice (some ⟨gg, 0, none⟩) (us.length + 1) cap2))
        have A9 := hide (tmacc_snoc (p := (.slice vba k0.len vbc, k1, k2, .slice va k3.len vc)) (own_chg hown G9 (fun x hx e => by have := HO.out; omega)))
        have M9 := hide (M8.chg G9 (fun x hx _ _ e => by have := HO.out; omega))
        have Z9 := hide (Nat.le_trans Z7.out (Nat.le_trans GR.size G9.size))
        have C9 : Hid (Chg (fun x => x = O) w3 (w8.setCell ⟨O, 3, none⟩ (.slice (some ⟨gg, 0, none⟩) (us.length + 1) cap2))) := hide (by
          have h1 : Chg (fun x => x = O ∨ bo ≤ x) w3 _ := ((C7.out.mono (fun x _ h => Or.inl h)).trans (GR.mono (fun x _ h => Or.inr (RL.out x h).1))).trans (G9.mono (fun x _ h => Or.inl h))
          exact h1.mono (fun x hx h => by have := HS.out; omega))
        have y09 := G9.cell (by have := HG.out; have := HO.out; omega) y08
        have y19 := G9.cell (by have := HG.out; have := HO.out; omega) y18
        have y29 := G9.cell (by have := HG.out; have := HO.out; omega) y28
        have y39 := G9.cell (by have := HG.out; have := HO.out; omega) y38
        have y49 := G9.cell (by have := HG.out; have := HO.out; omega) y48
        have HL9 : Hid ((us ++ [((.slice vba k0.len vbc, k1, k2, .slice va k3.len vc) : Tc)]).length = j + 1) := hide (by rw [List.length_append, HUL.out]; rfl)
        have F9 : Hid (TInv 35 w3 (w8.setCell ⟨O, 3, none⟩ (.slice (some ⟨gg, 0, none⟩) (us.length + 1) cap2)) O bo (.slice ca b.len cc) k i f (j + 1)) := hide ⟨_, us ++ [(.slice vba k0.len vbc, k1, k2, .slice va k3.len vc)], T9, A9, HL9, M9, Z9, C9⟩
        clear GR T8 M8 G9 hown hgrow hgat nE nO T9 A9 HL9 M9 Z9 C9
        refine hK.out _ _ ⟨y08, y18, y28, y38, y48⟩ (fun hHeld => ?_)
        clear hK K
        try simp only [Act.put, List.getElem_toArray, List.getElem_cons_zero, List.getElem_cons_succ, List.setIfInBounds_toArray, List.set_cons_zero, List.set_cons_succ]
        first
          | (refine wpAnyH_take (i := 10) (v := undef) rfl (by kernel_rfl) (by kernel_rfl) (by kernel_rfl) (fun _ _ _ h => h) (Or.inr ⟨by rfl, rfl⟩) (by assumption) ?_)
          | (refine wpAnyH_take (i := 10) (v := ?_) rfl (by kernel_rfl) (by kernel_rfl) (by kernel_rfl) (fun _ _ _ h => h) (Or.inl ⟨by rfl, ?_⟩) (by assumption) ?_
             rotate_left
             (intro w hSw
              (try dsimp only at hSw)
              (go_simp <;> with_reducible rfl)))
        try simp only [Act.put, List.getElem_toArray, List.getElem_cons_zero, List.getElem_cons_succ, List.setIfInBounds_toArray, List.set_cons_zero, List.set_cons_succ]
        refine wpAnyH_ready (rs := [11]) (by kernel_rfl) (by simp) ?_
        refine AllReadyH.cons (i := 11) (o := _) rfl (fun K hK => ?_) ?_
        rotate_left
        · exact AllReadyH.nil
        go_simp
        refine hK.out _ _ ⟨y09, y19, y29, y39, y49⟩ (fun hHeld => ?_)
        clear hK K
        try simp only [Act.put, List.getElem_toArray, List.getElem_cons_zero, List.getElem_cons_succ, List.setIfInBounds_toArray, List.set_cons_zero, List.set_cons_succ]
        refine wpAnyH_done (by kernel_rfl) ?_ _
        go_wp2_with fail
        go_roundw
        case rel => exact ⟨j + 1, by omega, by go_num, F9⟩
        case measure => simp [intOf]; omega
      refine AllReadyH.cons (i := 8) (o := _) rfl (fun K hK => ?_) ?_
      rotate_left
      · exact AllReadyH.nil
      go_simp
      refine hK.out _ _ ⟨y07, y17, y27, y37, y47⟩ (fun hHeld => ?_)
      clear hK K
      try simp only [Act.put, List.getElem_toArray, List.getElem_cons_zero, List.getElem_cons_succ, List.setIfInBounds_toArray, List.set_cons_zero, List.set_cons_succ]
      refine wpAnyH_ready (rs := [1]) (by kernel_rfl) (by simp) ?_
      refine AllReadyH.cons (i := 1) (o := _) rfl (fun K hK => ?_) ?_
      rotate_left
      · exact AllReadyH.nil
      go_simp
      refine hK.out _ _ ⟨y07, y17, y27, y37, y47⟩ (fun hHeld => ?_)
      clear hK K
      try simp only [Act.put, List.getElem_toArray, List.getElem_cons_zero, List.getElem_cons_succ, List.setIfInBounds_toArray, List.set_cons_zero, List.set_cons_succ]
      refine wpAnyH_ready (rs := [9]) (by kernel_rfl) (by simp) ?_
      refine AllReadyH.cons (i := 9) (o := _) rfl (fun K hK => ?_) ?_
      rotate_left
      · exact AllReadyH.nil
      refine step_append_lies _ (by rfl) _ _ _ (by rfl) bo 35 i0 (.agg #[.slice none 0 0, .int .i64 0, .int .i64 0, .slice none 0 0]) 4 64 Tryd.underlying33 hi0 hz0 hz1 hz2 rfl (by omega) _ us.length (cellsT us) (by rfl) A7.out ⟨w6.heap.size, 0, none⟩ 1 1 [.slice vba k0.len vbc, .int .i64 k1, .int .i64 k2, .slice va k3.len vc] (by rfl) (by rfl) NB.out (by simp [Value.oneCell']) (by omega) (by simp [maxLen]; omega) (by omega) Z7.out (w6.heap.size + 1) (by simp) ?_
      intro gg cap2 w8 hown hgrow hgat hglt
      have GR := (Chg.refl (fun x => u.ownBlock = some x) (w6.alloc (.cells #[.slice vba k0.len vbc, .int .i64 k1, .int .i64 k2, .slice va k3.len vc] 35))).grown hgrow (fun r e => Or.inl e)
      have nE : ¬ u.ownBlock = some g := fun e => (EO.out g e).2 rfl
      have nP : ¬ u.ownBlock = some P := fun e => (EO.out P e).1 rfl
      have nO : ¬ u.ownBlock = some O := fun e => by have := (RL.out O e).1; have := HO.out; omega
      have T8 := GR.blk nO HT7.out
      have fO8 := blk_free T8 3
      have zO8 := blk_cell T8 3
      simp only [List.getElem?_toArray, List.getElem?_cons_zero, List.getElem?_cons_succ] at zO8
      have y08 := GR.cell nE y07
      have y18 := GR.cell nE y17
      have y28 := GR.cell nE y27
      have y38 := GR.cell nE y37
      have y48 := GR.cell nP y47
      have M8 := N7.out.grown hgrow (u' := .slice (some ⟨gg, 0, none⟩) (us.length + 1) cap2) (by rcases hgat with h | h; exact Or.inl (by rw [h]; rfl); exact Or.inr (by rw [h, al_sz]; rfl))
      have G9 := Chg.set w8 O 3 (.slice (some ⟨gg, 0, none⟩) (us.length + 1) cap2)
      have T9 : Hid ((w8.setCell ⟨O, 3, none⟩ (.slice (some ⟨gg, 0, none⟩) (us.length + 1) cap2)).heap[O]? = some (.cells #[.slice ca b.len cc, .int .i64 k, .int .i64 i, .slice (some ⟨gg, 0, none⟩) (us.length + 1) cap2] 35)) := hide (blk_set T8 3 (.slice (some ⟨gg, 0, none⟩) (us.length + 1) cap2))
      have A9 := hide (tmacc_snoc (p := (.slice vba k0.len vbc, k1, k2, .slice va k3.len vc)) (own_chg hown G9 (fun x hx e => by have := HO.out; omega)))
      have M9 := hide (M8.chg G9 (fun x hx _ _ e => by have := HO.out; omega))
      have Z9 := hide (Nat.le_trans Z7.out (Nat.le_trans GR.size G9.size))
      have C9 : Hid (Chg (fun x => x = O) w3 (w8.setCell ⟨O, 3, none⟩ (.slice (some ⟨gg, 0, none⟩) (us.length + 1) cap2))) := hide (by
        have h1 : Chg (fun x => x = O ∨ bo ≤ x) w3 _ := ((C7.out.mono (fun x _ h => Or.inl h)).trans (GR.mono (fun x _ h => Or.inr (RL.out x h).1))).trans (G9.mono (fun x _ h => Or.inl h))
        exact h1.mono (fun x hx h => by have := HS.out; omega))
      have y09 := G9.cell (by have := HG.out; have := HO.out; omega) y08
      have y19 := G9.cell (by have := HG.out; have := HO.out; omega) y18
      have y29 := G9.cell (by have := HG.out; have := HO.out; omega) y28
      have y39 := G9.cell (by have := HG.out; have := HO.out; omega) y38
      have y49 := G9.cell (by have := HG.out; have := HO.out; omega) y48
      have HL9 : Hid ((us ++ [((.slice vba k0.len vbc, k1, k2, .slice va k3.len vc) : Tc)]).length = j + 1) := hide (by rw [List.length_append, HUL.out]; rfl)
      have F9 : Hid (TInv 35 w3 (w8.setCell ⟨O, 3, none⟩ (.slice (some ⟨gg, 0, none⟩) (us.length + 1) cap2)) O bo (.slice ca b.len cc) k i f (j + 1)) := hide ⟨_, us ++ [(.slice vba k0.len vbc, k1, k2, .slice va k3.len vc)], T9, A9, HL9, M9, Z9, C9⟩
      clear GR T8 M8 G9 hown hgrow hgat nE nO T9 A9 HL9 M9 Z9 C9
      refine hK.out _ _ ⟨y08, y18, y28, y38, y48⟩ (fun hHeld => ?_)
      clear hK K
      try simp only [Act.put, List.getElem_toArray, List.getElem_cons_zero, List.getElem_cons_succ, List.setIfInBounds_toArray, List.set_cons_zero, List.set_cons_succ]
      first
        | (refine wpAnyH_take (i := 10) (v := undef) rfl (by kernel_rfl) (by kernel_rfl) (by kernel_rfl) (fun _ _ _ h => h) (Or.inr ⟨by rfl, rfl⟩) (by assumption) ?_)
        | (refine wpAnyH_take (i := 10) (v := ?_) rfl (by kernel_rfl) (by kernel_rfl) (by kernel_rfl) (fun _ _ _ h => h) (Or.inl ⟨by rfl, ?_⟩) (by assumption) ?_
           rotate_left
           (intro w hSw
            (try dsimp only at hSw)
            (go_simp <;> with_reducible rfl)))
      try simp only [Act.put, List.getElem_toArray, List.getElem_cons_zero, List.getElem_cons_succ, List.setIfInBounds_toArray, List.set_cons_zero, List.set_cons_succ]
      refine wpAnyH_ready (rs := [11]) (by kernel_rfl) (by simp) ?_
      refine AllReadyH.cons (i := 11) (o := _) rfl (fun K hK => ?_) ?_
      rotate_left
      · exact AllReadyH.nil
      go_simp
      refine hK.out _ _ ⟨y09, y19, y29, y39, y49⟩ (fun hHeld => ?_)
      clear hK K
      try simp only [Act.put, List.getElem_toArray, List.getElem_cons_zero, List.getElem_cons_succ, List.setIfInBounds_toArray, List.set_cons_zero, List.set_cons_succ]
      refine wpAnyH_done (by kernel_rfl) ?_ _
      go_wp2_with fail
      go_roundw
      case rel => exact ⟨j + 1, by omega, by go_num, F9⟩
      case measure => simp [intOf]; omega
    · have hif : j = f.len := by omega
      have i2 : ¬ (j : Int) < (f.len : Int) := by omega
      have BRr := hC.out.blk (by have := HO.out; omega) BR3.out
      have z0 := blk_cell hT.out 0
      have z1 := blk_cell hT.out 1
      have z2 := blk_cell hT.out 2
      have z3 := blk_cell hT.out 3
      have cR0 := blk_cell BRr 0
      have cR1 := blk_cell BRr 1
      have cR2 := blk_cell BRr 2
      have cR3 := blk_cell BRr 3
      have fR0 := blk_free BRr 0
      have fR1 := blk_free BRr 1
      have fR2 := blk_free BRr 2
      have fR3 := blk_free BRr 3
      simp only [List.getElem?_toArray, List.getElem?_cons_zero, List.getElem?_cons_succ] at z0 z1 z2 z3 cR0 cR1 cR2 cR3
      obtain ⟨ua, uc, hue⟩ : ∃ ua uc, u = .slice ua us.length uc := by
        rcases hA.out.2 with ⟨h1, h2⟩ | ⟨g, cap2, cur, h1, _⟩
        · exact ⟨_, _, by rw [h1, h2]⟩
        · exact ⟨_, _, h1⟩
      have NS : Hid (((((wr.setCell ⟨R, 0, none⟩ (.slice ca b.len cc)).setCell ⟨R, 1, none⟩ (.int .i64 k)).setCell ⟨R, 2, none⟩ (.int .i64 i)).setCell ⟨R, 3, none⟩ u).heap[R]? = some (.cells #[.slice ca b.len cc, .int .i64 k, .int .i64 i, u] 35) ∧ Chg (fun x => x = R) wr ((((wr.setCell ⟨R, 0, none⟩ (.slice ca b.len cc)).setCell ⟨R, 1, none⟩ (.int .i64 k)).setCell ⟨R, 2, none⟩ (.int .i64 i)).setCell ⟨R, 3, none⟩ u)) := hide ⟨blk_set (blk_set (blk_set (blk_set BRr 0 (.slice ca b.len cc)) 1 (.int .i64 k)) 2 (.int .i64 i)) 3 u, (((Chg.set wr R 0 (.slice ca b.len cc)).trans (Chg.set _ R 1 (.int .i64 k))).trans (Chg.set _ R 2 (.int .i64 i))).trans (Chg.set _ R 3 u)⟩
      have AF := own_chg hA.out NS.out.2 (fun x hx e => by have := HO.out; omega)
      have MF := hM.out.chg NS.out.2 (fun x hx _ _ e => by have := HO.out; omega)
      have CF : Chg (fun _ => False) w ((((wr.setCell ⟨R, 0, none⟩ (.slice ca b.len cc)).setCell ⟨R, 1, none⟩ (.int .i64 k)).setCell ⟨R, 2, none⟩ (.int .i64 i)).setCell ⟨R, 3, none⟩ u) := by
        have h1 : Chg (fun x => x = O ∨ x = R) w _ := ((G3.out.mono (fun x _ h => Or.inl h)).trans (hC.out.mono (fun x _ h => Or.inl h))).trans (NS.out.2.mono (fun x _ h => Or.inr h))
        exact h1.mono (fun x hx h => by have := HO.out; omega)
      have TF := ((TB3.out.chg hC.out (fun x hx e => hx.2.2 e)).chg NS.out.2 (fun x hx e => by have := hx.1; have := HO1.out; omega)).up (Y := fun x => w.heap.size ≤ x ∧ x < ((((wr.setCell ⟨R, 0, none⟩ (.slice ca b.len cc)).setCell ⟨R, 1, none⟩ (.int .i64 k)).setCell ⟨R, 2, none⟩ (.int .i64 i)).setCell ⟨R, 3, none⟩ u).heap.size) (fun x hx => ⟨by have := hx.1; have := HO1.out; omega, by have := hx.2.1; have := HS.out; have := hZ.out; have := NS.out.2.size; omega⟩)
      have F : Hid ((Ts ((((wr.setCell ⟨R, 0, none⟩ (.slice ca b.len cc)).setCell ⟨R, 1, none⟩ (.int .i64 k)).setCell ⟨R, 2, none⟩ (.int .i64 i)).setCell ⟨R, 3, none⟩ u) (fun x => w.heap.size ≤ x ∧ x < ((((wr.setCell ⟨R, 0, none⟩ (.slice ca b.len cc)).setCell ⟨R, 1, none⟩ (.int .i64 k)).setCell ⟨R, 2, none⟩ (.int .i64 i)).setCell ⟨R, 3, none⟩ u).heap.size) (.slice ca b.len cc) b ∧ Tr ((((wr.setCell ⟨R, 0, none⟩ (.slice ca b.len cc)).setCell ⟨R, 1, none⟩ (.int .i64 k)).setCell ⟨R, 2, none⟩ (.int .i64 i)).setCell ⟨R, 3, none⟩ u) (fun x => w.heap.size ≤ x ∧ x < ((((wr.setCell ⟨R, 0, none⟩ (.slice ca b.len cc)).setCell ⟨R, 1, none⟩ (.int .i64 k)).setCell ⟨R, 2, none⟩ (.int .i64 i)).setCell ⟨R, 3, none⟩ u).heap.size) u f) ∧ Chg (fun _ => False) w ((((wr.setCell ⟨R, 0, none⟩ (.slice ca b.len cc)).setCell ⟨R, 1, none⟩ (.int .i64 k)).setCell ⟨R, 2, none⟩ (.int .i64 i)).setCell ⟨R, 3, none⟩ u)) := hide ⟨⟨TF, tmacc_tr AF (fun r e => by have h1 := World.ownsRow.lt AF r e; have := HO.out; exact ⟨by omega, h1.2⟩) (by rw [hL.out, htl, hif]) (fun m h1 h2 => (MF.2 m h1 h2).up (fun x hx => ⟨by have := HO.out; have := hx.1; omega, hx.2.1⟩))⟩, CF⟩
      subst hue
      subst hif
      clear AF MF CF TF hT hA hL hM hZ hC BRr
      go_wp2_with fail
      generalize ((((wr.setCell ⟨R, 0, none⟩ (.slice ca b.len cc)).setCell ⟨R, 1, none⟩ (.int .i64 k)).setCell ⟨R, 2, none⟩ (.int .i64 i)).setCell ⟨R, 3, none⟩ (.slice ua us.length uc)) = wF at *
      have r0 := blk_cell NS.out.1 0
      have r1 := blk_cell NS.out.1 1
      have r2 := blk_cell NS.out.1 2
      have r3 := blk_cell NS.out.1 3
      refine bodyPost_ret (v := .agg #[.slice ca b.len cc, .int .i64 k, .int .i64 i, .slice ua us.length uc]) (by simp [results, Tryd.results11, go_sem, r0, r1, r2, r3]) rfl ?_
      exact ⟨⟨_, _, rfl, F.out.1.1, F.out.1.2⟩, F.out.2⟩
theorem to06_all (n : Nat) : ∀ f : Tms, f.size ≤ n → to06C f := by
  induction n with
  | zero => exact fun f hf => to06_step 0 (fun g hg => absurd hg (Nat.not_lt_zero _)) f hf
  | succ n ih => exact fun f hf => to06_step (n + 1) (fun g hg => ih g (by omega)) f hf
/-- A term, as new memory. -/
theorem to06_any (t : Tm) (ok : TmOk t) (v : Value) (X : Nat → Prop) (w : World) (hX : ∀ x, X x → x < w.heap.size) (hv : TV w X v t) :
    Calls Tryd.prog 11 #[v] w fun e w' => (∃ v', e = .returned v' ∧ TV w' (fun x => w.heap.size ≤ x ∧ x < w'.heap.size) v' t) ∧ Chg (fun _ => False) w w' := by
  obtain ⟨b, k, i, f⟩ := t
  obtain ⟨ba, bc, a, cap, rfl, h1, h2⟩ := hv
  refine (to06_all f.size f (Nat.le_refl _) b k i _ _ X w ok.1 ok.2.2.1 ok.2.2.2.1 hX h1 h2).mono ?_
  rintro e w' ⟨⟨vb', v', rfl, t1, t2⟩, g⟩
  obtain ⟨ca, cc, rfl, _⟩ := id t1
  obtain ⟨va, vc, rfl, _⟩ := id t2
  exact ⟨⟨_, rfl, ca, cc, va, vc, rfl, t1, t2⟩, g⟩
end Go.Proofs.YtnpcapdlgcaniaaDoor
