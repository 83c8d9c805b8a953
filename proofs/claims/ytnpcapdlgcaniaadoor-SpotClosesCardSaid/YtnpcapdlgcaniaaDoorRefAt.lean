/- The document's At: what is at a path, and around it. -/
import Derived.Test.YtnpcapdlgcaniaaDoorBehind
namespace Go.Proofs.YtnpcapdlgcaniaaDoor
open Go.RowKit
set_option linter.unusedVariables false
set_option linter.unusedSimpArgs false

/-- what is at a path, and all binders on the way -/
def atR : Tm → List Int → Option (Tm × Fs)
  | t, [] => some (t, t.bs)
  | t, i :: p => match t.sub i with
    | none => none
    | some x => (atR x p).map fun y => (y.1, t.bs.app y.2)
theorem Fs.app_assoc (a b c : Fs) : (a.app b).app c = a.app (b.app c) := by
  unfold Fs.app
  simp only [Fs.toL_ofL, List.append_assoc]
theorem atG_app : ∀ (p : List Int) (acc : Fs) (t : Tm), atG (acc.app t.bs) t p = (atR t p).map fun y => (y.1, acc.app y.2)
  | [], acc, t => rfl
  | i :: p, acc, t => by
    simp only [atG, atR]
    cases t.sub i with
    | none => rfl
    | some x =>
      simp only
      rw [atG_app p (acc.app t.bs) x]
      cases atR x p with
      | none => rfl
      | some y => simp [Fs.app_assoc]
theorem atG_R (t : Tm) (p : List Int) : atG t.bs t p = atR t p := by
  have h := atG_app p .nil t
  rw [Fs.nil_app] at h
  rw [h]
  cases atR t p with
  | none => rfl
  | some y => simp [Fs.nil_app]
theorem sub_kid {t x : Tm} {i : Int} (h : t.sub i = some x) : ∃ (m : Nat) (hm : m < t.ag.toL.length), i = (m : Int) ∧ x = t.ag.toL[m] := by
  unfold Tm.sub at h
  split at h
  · obtain ⟨hm, e⟩ := List.getElem?_eq_some_iff.1 h
    exact ⟨i.toNat, hm, by omega, e.symm⟩
  · cases h
theorem atR_size : ∀ (p : List Int) (t : Tm) (y : Tm × Fs), atR t p = some y → y.2.size ≤ t.bs.size + t.ag.size
  | [], t, y, h => by cases h; exact Nat.le_add_right _ _
  | i :: p, t, y, h => by
    simp only [atR] at h
    cases hs : t.sub i with
    | none => rw [hs] at h; cases h
    | some x =>
      rw [hs] at h
      obtain ⟨z, hz, rfl⟩ := Option.map_eq_some_iff.1 h
      have h1 := atR_size p x z hz
      obtain ⟨m, hm, _, rfl⟩ := sub_kid hs
      have := Tms.kid_sum t.ag m hm
      simp only [Fs.app_size]
      omega
theorem atR_ok : ∀ (p : List Int) (t : Tm) (y : Tm × Fs), TmOk t → atR t p = some y → TmOk y.1
  | [], t, y, ok, h => by cases h; exact ok
  | i :: p, t, y, ok, h => by
    simp only [atR] at h
    cases hs : t.sub i with
    | none => rw [hs] at h; cases h
    | some x =>
      rw [hs] at h
      obtain ⟨z, hz, rfl⟩ := Option.map_eq_some_iff.1 h
      obtain ⟨m, hm, _, rfl⟩ := sub_kid hs
      exact atR_ok p _ z (sub_ok ok hm) hz
def RatC (p : List Int) : Prop := ∀ (t : Tm) (v u : Value) (X : Nat → Prop) (w : World), TmOk t → (∀ x, X x → x < w.heap.size) → TV w X v t → Ip w u p →
  Calls Tryd.prog 13 #[v, u] w fun e w' => (∃ v' vl, e = .returned (.tuple #[v', vl, .bool (atR t p).isSome]) ∧ TV w' (New X w w') v' (((atR t p).getD ((.nil, 0, 0, .nil), .nil)).1) ∧ Ts w' (New X w w') vl (((atR t p).getD ((.nil, 0, 0, .nil), .nil)).2)) ∧ Chg (fun _ => False) w w'

set_option maxRecDepth 100000 in
set_option maxHeartbeats 32000000 in
theorem rat_any (p : List Int) : RatC p := by
  induction p with
  | nil =>
    intro t v u X w ok hX hv hu
    have HX := hide hX
    obtain ⟨b, k, i, f⟩ := t
    obtain ⟨ba, bc, a, cap, rfl, h1, h2⟩ := hv
    have OK := hide ok
    have HU := hide hu
    obtain ⟨ua, uc, rfl, _⟩ := id hu
    dsimp only [Tm.bs, Tm.kd, Tm.ix, Tm.ag] at h1 h2 ⊢
    have G1 := al w (.cells #[.slice ba b.len bc, .int .i64 k, .int .i64 i, .slice a f.len cap] 27)
    have b0 := blk_new w (.cells #[.slice ba b.len bc, .int .i64 k, .int .i64 i, .slice a f.len cap] 27)
    have G2 := al (w.alloc (.cells #[.slice ba b.len bc, .int .i64 k, .int .i64 i, .slice a f.len cap] 27)) (.cells #[.slice none 0 0, .int .i64 0, .int .i64 0, .slice none 0 0] 27)
    have b1 := blk_new (w.alloc (.cells #[.slice ba b.len bc, .int .i64 k, .int .i64 i, .slice a f.len cap] 27)) (.cells #[.slice none 0 0, .int .i64 0, .int .i64 0, .slice none 0 0] 27)
    have b0' := G2.blk (fun h => h) b0
    rw [al_sz] at b1
    have GG := hide (G1.trans G2)
    have BP := hide b0'
    have BR := hide b1
    have sz2 : ((w.alloc (.cells #[.slice ba b.len bc, .int .i64 k, .int .i64 i, .slice a f.len cap] 27)).alloc (.cells #[.slice none 0 0, .int .i64 0, .int .i64 0, .slice none 0 0] 27)).heap.size = w.heap.size + 2 := by rw [al_sz, al_sz]
    have SZ := hide sz2
    have TB0 := hide h1
    have TR0 := hide h2
    have hT : TV w X (.agg #[.slice ba b.len bc, .int .i64 k, .int .i64 i, .slice a f.len cap]) (b, k, i, f) := ⟨ba, bc, a, cap, rfl, h1, h2⟩
    clear G1 G2 b0 b1 b0' sz2 h1 h2 hu ok hX
    go_enter Tryd.func13, Tryd.ntmps13
    clear HU
    have TV0 := hide hT
    have RR : Hid (atR (b, k, i, f) [] = some ((b, k, i, f), b)) := hide rfl
    go_upto_region 2 with fail
    generalize ((w.alloc (.cells #[.slice ba b.len bc, .int .i64 k, .int .i64 i, .slice a f.len cap] 27)).alloc (.cells #[.slice none 0 0, .int .i64 0, .int .i64 0, .slice none 0 0] 27)) = w1 at *
    obtain ⟨P, hP⟩ : ∃ P, w.heap.size = P := ⟨_, rfl⟩
    obtain ⟨R, hR⟩ : ∃ R, P + 1 = R := ⟨_, rfl⟩
    have hZ := SZ.out
    rw [hP] at BP BR hZ ⊢
    rw [hR] at BR ⊢
    have HO : Hid (w1.heap.size = R + 1 ∧ P < R ∧ w.heap.size = P) := hide (by refine ⟨by omega, by omega, hP⟩)
    clear hP hR SZ hZ
    have p0 : w1.cell? ⟨P, 0, none⟩ = some (.slice ba b.len bc) := blk_cell BP.out 0
    have p1 : w1.cell? ⟨P, 1, none⟩ = some (.int .i64 k) := blk_cell BP.out 1
    have p2 : w1.cell? ⟨P, 2, none⟩ = some (.int .i64 i) := blk_cell BP.out 2
    have p3 : w1.cell? ⟨P, 3, none⟩ = some (.slice a f.len cap) := blk_cell BP.out 3
    refine wp_region_held_drew (S := (fun w' => w'.cell? ⟨P, 0, none⟩ = some (.slice ba b.len bc) ∧ w'.cell? ⟨P, 1, none⟩ = some (.int .i64 k) ∧ w'.cell? ⟨P, 2, none⟩ = some (.int .i64 i) ∧ w'.cell? ⟨P, 3, none⟩ = some (.slice a f.len cap))) (by kernel_rfl) (by go_keep) (fun hHeld => ?_)
    first
      | (refine wpAnyH_take (i := 0) (v := undef) rfl (by kernel_rfl) (by kernel_rfl) (by kernel_rfl) (fun _ _ _ h => h) (Or.inr ⟨by rfl, rfl⟩) (by assumption) ?_)
      | (refine wpAnyH_take (i := 0) (v := ?_) rfl (by kernel_rfl) (by kernel_rfl) (by kernel_rfl) (fun _ _ _ h => h) (Or.inl ⟨by rfl, ?_⟩) (by assumption) ?_
         rotate_left
         (intro w hSw
          (try dsimp only at hSw)
          (go_simp <;> with_reducible rfl)))
    try simp only [Act.put, List.getElem_toArray, List.getElem_cons_zero, List.getElem_cons_succ, List.setIfInBounds_toArray, List.set_cons_zero, List.set_cons_succ]
    first
      | (refine wpAnyH_take (i := 1) (v := undef) rfl (by kernel_rfl) (by kernel_rfl) (by kernel_rfl) (fun _ _ _ h => h) (Or.inr ⟨by rfl, rfl⟩) (by assumption) ?_)
      | (refine wpAnyH_take (i := 1) (v := ?_) rfl (by kernel_rfl) (by kernel_rfl) (by kernel_rfl) (fun _ _ _ h => h) (Or.inl ⟨by rfl, ?_⟩) (by assumption) ?_
         rotate_left
         (intro w hSw
          (try dsimp only at hSw)
          (go_simp <;> with_reducible rfl)))
    try simp only [Act.put, List.getElem_toArray, List.getElem_cons_zero, List.getElem_cons_succ, List.setIfInBounds_toArray, List.set_cons_zero, List.set_cons_succ]
    first
      | (refine wpAnyH_take (i := 2) (v := undef) rfl (by kernel_rfl) (by kernel_rfl) (by kernel_rfl) (fun _ _ _ h => h) (Or.inr ⟨by rfl, rfl⟩) (by assumption) ?_)
      | (refine wpAnyH_take (i := 2) (v := ?_) rfl (by kernel_rfl) (by kernel_rfl) (by kernel_rfl) (fun _ _ _ h => h) (Or.inl ⟨by rfl, ?_⟩) (by assumption) ?_
         rotate_left
         (intro w hSw
          (try dsimp only at hSw)
          (go_simp <;> with_reducible rfl)))
    try simp only [Act.put, List.getElem_toArray, List.getElem_cons_zero, List.getElem_cons_succ, List.setIfInBounds_toArray, List.set_cons_zero, List.set_cons_succ]
    refine wpAnyH_ready (rs := [3]) (by kernel_rfl) (by simp) ?_
    refine AllReadyH.cons (i := 3) (o := _) rfl (fun K hK => ?_) ?_
    rotate_left
    · exact AllReadyH.nil
    have b0 := blk_cell BR.out 0
    have ff0 := blk_free BR.out 0
    have b1 := blk_cell BR.out 1
    have ff1 := blk_free BR.out 1
    have b2 := blk_cell BR.out 2
    have ff2 := blk_free BR.out 2
    have b3 := blk_cell BR.out 3
    have ff3 := blk_free BR.out 3
    simp only [List.getElem?_toArray, List.getElem?_cons_zero, List.getElem?_cons_succ] at b0 b1 b2 b3
    have NS : Hid (((((w1.setCell ⟨R, 0, none⟩ (.slice ba b.len bc)).setCell ⟨R, 1, none⟩ (.int .i64 k)).setCell ⟨R, 2, none⟩ (.int .i64 i)).setCell ⟨R, 3, none⟩ (.slice a f.len cap)).heap[R]? = some (.cells #[.slice ba b.len bc, .int .i64 k, .int .i64 i, .slice a f.len cap] 27) ∧ Chg (fun x => x = R) w1 ((((w1.setCell ⟨R, 0, none⟩ (.slice ba b.len bc)).setCell ⟨R, 1, none⟩ (.int .i64 k)).setCell ⟨R, 2, none⟩ (.int .i64 i)).setCell ⟨R, 3, none⟩ (.slice a f.len cap))) := hide ⟨(blk_set (blk_set (blk_set (blk_set BR.out 0 (.slice ba b.len bc)) 1 (.int .i64 k)) 2 (.int .i64 i)) 3 (.slice a f.len cap)), ((((Chg.set w1 R 0 (.slice ba b.len bc)).trans (Chg.set (w1.setCell ⟨R, 0, none⟩ (.slice ba b.len bc)) R 1 (.int .i64 k))).trans (Chg.set ((w1.setCell ⟨R, 0, none⟩ (.slice ba b.len bc)).setCell ⟨R, 1, none⟩ (.int .i64 k)) R 2 (.int .i64 i))).trans (Chg.set (((w1.setCell ⟨R, 0, none⟩ (.slice ba b.len bc)).setCell ⟨R, 1, none⟩ (.int .i64 k)).setCell ⟨R, 2, none⟩ (.int .i64 i)) R 3 (.slice a f.len cap)))⟩
    have p0b := NS.out.2.cell (by have := HO.out; omega) p0
    have p1b := NS.out.2.cell (by have := HO.out; omega) p1
    have p2b := NS.out.2.cell (by have := HO.out; omega) p2
    have p3b := NS.out.2.cell (by have := HO.out; omega) p3
    go_simp
    refine hK.out _ _ ⟨p0b, p1b, p2b, p3b⟩ (fun hHeld => ?_)
    clear hK K
    try simp only [Act.put, List.getElem_toArray, List.getElem_cons_zero, List.getElem_cons_succ, List.setIfInBounds_toArray, List.set_cons_zero, List.set_cons_succ]
    first
      | (refine wpAnyH_take (i := 4) (v := undef) rfl (by kernel_rfl) (by kernel_rfl) (by kernel_rfl) (fun _ _ _ h => h) (Or.inr ⟨by rfl, rfl⟩) (by assumption) ?_)
      | (refine wpAnyH_take (i := 4) (v := ?_) rfl (by kernel_rfl) (by kernel_rfl) (by kernel_rfl) (fun _ _ _ h => h) (Or.inl ⟨by rfl, ?_⟩) (by assumption) ?_
         rotate_left
         (intro w hSw
          (try dsimp only at hSw)
          (go_simp <;> with_reducible rfl)))
    try simp only [Act.put, List.getElem_toArray, List.getElem_cons_zero, List.getElem_cons_succ, List.setIfInBounds_toArray, List.set_cons_zero, List.set_cons_succ]
    first
      | (refine wpAnyH_take (i := 5) (v := undef) rfl (by kernel_rfl) (by kernel_rfl) (by kernel_rfl) (fun _ _ _ h => h) (Or.inr ⟨by rfl, rfl⟩) (by assumption) ?_)
      | (refine wpAnyH_take (i := 5) (v := ?_) rfl (by kernel_rfl) (by kernel_rfl) (by kernel_rfl) (fun _ _ _ h => h) (Or.inl ⟨by rfl, ?_⟩) (by assumption) ?_
         rotate_left
         (intro w hSw
          (try dsimp only at hSw)
          (go_simp <;> with_reducible rfl)))
    try simp only [Act.put, List.getElem_toArray, List.getElem_cons_zero, List.getElem_cons_succ, List.setIfInBounds_toArray, List.set_cons_zero, List.set_cons_succ]
    refine wpAnyH_done (by kernel_rfl) ?_ _
    have GF : Hid (Chg (fun _ => False) w (((((w1.setCell ⟨R, 0, none⟩ (.slice ba b.len bc)).setCell ⟨R, 1, none⟩ (.int .i64 k)).setCell ⟨R, 2, none⟩ (.int .i64 i)).setCell ⟨R, 3, none⟩ (.slice a f.len cap))).drew) := hide (((((GG.out).none (S := fun x => x = R)).trans NS.out.2).mono (fun x hx e => by have := HO.out; omega)).drew)
    go_wp2_with fail
    have BF : Hid ((((((w1.setCell ⟨R, 0, none⟩ (.slice ba b.len bc)).setCell ⟨R, 1, none⟩ (.int .i64 k)).setCell ⟨R, 2, none⟩ (.int .i64 i)).setCell ⟨R, 3, none⟩ (.slice a f.len cap))).drew.heap[R]? = some (.cells #[.slice ba b.len bc, .int .i64 k, .int .i64 i, .slice a f.len cap] 27)) := hide NS.out.1
    generalize (((((w1.setCell ⟨R, 0, none⟩ (.slice ba b.len bc)).setCell ⟨R, 1, none⟩ (.int .i64 k)).setCell ⟨R, 2, none⟩ (.int .i64 i)).setCell ⟨R, 3, none⟩ (.slice a f.len cap))).drew = wF at *
    have r0 := blk_cell BF.out 0
    have r1 := blk_cell BF.out 1
    have r2 := blk_cell BF.out 2
    have r3 := blk_cell BF.out 3
    refine bodyPost_ret (v := .tuple #[.agg #[.slice ba b.len bc, .int .i64 k, .int .i64 i, .slice a f.len cap], .slice ba b.len bc, .bool true]) (by simp [results, Tryd.results13, go_sem, r0, r1, r2, r3]) rfl ?_
    exact ⟨⟨_, _, by rw [RR.out]; rfl, by rw [RR.out]; exact (TV0.out.chg GF.out (fun _ _ h => h)).up (fun x hx => Or.inl hx), by rw [RR.out]; exact (TB0.out.chg GF.out (fun _ _ h => h)).up (fun x hx => Or.inl hx)⟩, GF.out⟩
  | cons n p ih =>
    intro t v u X w ok hX hv hu
    have HX := hide hX
    have IH := hide ih
    clear ih
    obtain ⟨b, k, i, f⟩ := t
    obtain ⟨ba, bc, a, cap, rfl, h1, h2⟩ := hv
    have OK := hide ok
    have HU := hide hu
    obtain ⟨ua, uc, rfl, _⟩ := id hu
    dsimp only [Tm.bs, Tm.kd, Tm.ix, Tm.ag] at h1 h2 ⊢
    have G1 := al w (.cells #[.slice ba b.len bc, .int .i64 k, .int .i64 i, .slice a f.len cap] 27)
    have b0 := blk_new w (.cells #[.slice ba b.len bc, .int .i64 k, .int .i64 i, .slice a f.len cap] 27)
    have G2 := al (w.alloc (.cells #[.slice ba b.len bc, .int .i64 k, .int .i64 i, .slice a f.len cap] 27)) (.cells #[.slice none 0 0, .int .i64 0, .int .i64 0, .slice none 0 0] 27)
    have b1 := blk_new (w.alloc (.cells #[.slice ba b.len bc, .int .i64 k, .int .i64 i, .slice a f.len cap] 27)) (.cells #[.slice none 0 0, .int .i64 0, .int .i64 0, .slice none 0 0] 27)
    have b0' := G2.blk (fun h => h) b0
    rw [al_sz] at b1
    have GG := hide (G1.trans G2)
    have BP := hide b0'
    have BR := hide b1
    have sz2 : ((w.alloc (.cells #[.slice ba b.len bc, .int .i64 k, .int .i64 i, .slice a f.len cap] 27)).alloc (.cells #[.slice none 0 0, .int .i64 0, .int .i64 0, .slice none 0 0] 27)).heap.size = w.heap.size + 2 := by rw [al_sz, al_sz]
    have SZ := hide sz2
    have TB0 := hide h1
    have TR0 := hide h2
    have hT : TV w X (.agg #[.slice ba b.len bc, .int .i64 k, .int .i64 i, .slice a f.len cap]) (b, k, i, f) := ⟨ba, bc, a, cap, rfl, h1, h2⟩
    clear G1 G2 b0 b1 b0' sz2 h1 h2 hu ok hX
    go_enter Tryd.func13, Tryd.ntmps13
    have TV0 := hide hT
    obtain ⟨g0, off0, pc, pa, e0, pl1, pl2, pd, psl, pip⟩ := HU.out.tail
    injection e0 with e0 e1 e2
    subst e0 e2
    simp only [List.length_cons] at e1
    clear e1 HU
    have PSL := hide psl
    have PIP := hide pip
    clear pip
    generalize hRES : atR (b, k, i, f) (n :: p) = RES
    have HR := hide hRES
    clear hRES
    have q0 := GG.out.cell (fun h => h) pd
    clear pd psl
    have hpn : (List.length (n :: p) : Nat) = p.length + 1 := rfl
    rw [hpn] at *
    have hp1 : (0 : Int) < (p.length : Int) + 1 := by omega
    go_upto_region 4 with fail
    generalize ((w.alloc (.cells #[.slice ba b.len bc, .int .i64 k, .int .i64 i, .slice a f.len cap] 27)).alloc (.cells #[.slice none 0 0, .int .i64 0, .int .i64 0, .slice none 0 0] 27)) = w1 at *
    obtain ⟨P, hP⟩ : ∃ P, w.heap.size = P := ⟨_, rfl⟩
    obtain ⟨R, hR⟩ : ∃ R, P + 1 = R := ⟨_, rfl⟩
    have hZ := SZ.out
    rw [hP] at BP BR hZ ⊢
    rw [hR] at BR ⊢
    have HO : Hid (w1.heap.size = R + 1 ∧ P < R ∧ w.heap.size = P) := hide (by refine ⟨by omega, by omega, hP⟩)
    clear hP hR SZ hZ
    have p3 : w1.cell? ⟨P, 3, none⟩ = some (.slice a f.len cap) := blk_cell BP.out 3
    obtain ⟨D, hD⟩ : ∃ D, (decide (n < 0) || decide ((f.len : Int) ≤ n)) = D := ⟨_, rfl⟩
    have HD := hide hD
    clear hD
    go_cut [28] (fun sv wx => sv = .bool D ∧ w1 = wx)
    case first =>
      by_cases e1 : n < 0
      · have e1' : decide (n < 0) = true := by simpa using e1
        have HD2 : Hid (D = true) := hide (by rw [← HD.out, e1']; rfl)
        clear e1
        go_wp2_with fail
        go_meet
        exact ⟨by rw [HD2.out], rfl⟩
      · have e1' : decide (n < 0) = false := by simpa using e1
        have HD2 : Hid (D = decide ((f.len : Int) ≤ n)) := hide (by rw [← HD.out, e1']; rfl)
        clear e1
        go_wp2_with fail
        go_meet
        exact ⟨by rw [HD2.out], rfl⟩
    case rest =>
    obtain ⟨rfl, rfl⟩ := hcut
    clear q0
    cases D
    rotate_left
    · have EN : Hid (RES = none) := hide (by
        rw [← HR.out]
        simp only [atR]
        rw [Tm.sub_none (by have h := HD.out; simp only [Bool.or_eq_true, decide_eq_true_eq] at h; exact h)])
      have b0 := blk_cell BR.out 0
      have ff0 := blk_free BR.out 0
      have b1 := blk_cell BR.out 1
      have ff1 := blk_free BR.out 1
      have b2 := blk_cell BR.out 2
      have ff2 := blk_free BR.out 2
      have b3 := blk_cell BR.out 3
      have ff3 := blk_free BR.out 3
      simp only [List.getElem?_toArray, List.getElem?_cons_zero, List.getElem?_cons_succ] at b0 b1 b2 b3
      have NZ : Hid (((((w1.setCell ⟨R, 0, none⟩ (.slice none 0 0)).setCell ⟨R, 1, none⟩ (.int .i64 0)).setCell ⟨R, 2, none⟩ (.int .i64 0)).setCell ⟨R, 3, none⟩ (.slice none 0 0)).heap[R]? = some (.cells #[.slice none 0 0, .int .i64 0, .int .i64 0, .slice none 0 0] 27) ∧ Chg (fun x => x = R) w1 ((((w1.setCell ⟨R, 0, none⟩ (.slice none 0 0)).setCell ⟨R, 1, none⟩ (.int .i64 0)).setCell ⟨R, 2, none⟩ (.int .i64 0)).setCell ⟨R, 3, none⟩ (.slice none 0 0))) := hide ⟨(blk_set (blk_set (blk_set (blk_set BR.out 0 (.slice none 0 0)) 1 (.int .i64 0)) 2 (.int .i64 0)) 3 (.slice none 0 0)), ((((Chg.set w1 R 0 (.slice none 0 0)).trans (Chg.set (w1.setCell ⟨R, 0, none⟩ (.slice none 0 0)) R 1 (.int .i64 0))).trans (Chg.set ((w1.setCell ⟨R, 0, none⟩ (.slice none 0 0)).setCell ⟨R, 1, none⟩ (.int .i64 0)) R 2 (.int .i64 0))).trans (Chg.set (((w1.setCell ⟨R, 0, none⟩ (.slice none 0 0)).setCell ⟨R, 1, none⟩ (.int .i64 0)).setCell ⟨R, 2, none⟩ (.int .i64 0)) R 3 (.slice none 0 0)))⟩
      have GZ : Hid (Chg (fun _ => False) w ((((w1.setCell ⟨R, 0, none⟩ (.slice none 0 0)).setCell ⟨R, 1, none⟩ (.int .i64 0)).setCell ⟨R, 2, none⟩ (.int .i64 0)).setCell ⟨R, 3, none⟩ (.slice none 0 0))) := hide ((((GG.out).none (S := fun x => x = R)).trans NZ.out.2).mono (fun x hx e => by have := HO.out; omega))
      go_wp2_with fail
      generalize ((((w1.setCell ⟨R, 0, none⟩ (.slice none 0 0)).setCell ⟨R, 1, none⟩ (.int .i64 0)).setCell ⟨R, 2, none⟩ (.int .i64 0)).setCell ⟨R, 3, none⟩ (.slice none 0 0)) = wF at *
      have r0 := blk_cell NZ.out.1 0
      have r1 := blk_cell NZ.out.1 1
      have r2 := blk_cell NZ.out.1 2
      have r3 := blk_cell NZ.out.1 3
      refine bodyPost_ret (v := .tuple #[.agg #[.slice none 0 0, .int .i64 0, .int .i64 0, .slice none 0 0], .slice none 0 0, .bool false]) (by simp [results, Tryd.results13, go_sem, r0, r1, r2, r3]) rfl ?_
      exact ⟨⟨_, _, by rw [EN.out]; rfl, by rw [EN.out]; exact TV.zero _ _, by rw [EN.out]; exact Ts.nil _ _⟩, GZ.out⟩
    · have hb : ¬ n < 0 ∧ ¬ (f.len : Int) ≤ n := by
        have h := HD.out
        simp only [Bool.or_eq_false_iff, decide_eq_false_iff_not] at h
        exact h
      obtain ⟨m, rfl⟩ : ∃ m : Nat, n = (m : Int) := ⟨n.toNat, by omega⟩
      have hm : m < f.len := by omega
      have hmt : m < f.toL.length := by rw [Tms.toL_len]; exact hm
      have SUB : Tm.sub (b, k, i, f) (m : Int) = some f.toL[m] := Tm.sub_some (t := (b, k, i, f)) hmt
      have OKm := hide (sub_ok OK.out (t := (b, k, i, f)) hmt)
      have HR2 : Hid ((atR f.toL[m] p).map (fun y => (y.1, b.app y.2)) = RES) := hide (by
        rw [← HR.out]
        simp only [atR]
        rw [SUB])
      have HSZ := hide (Tms.kid_sum f m hmt)
      obtain ⟨la, lc, hlv, hl⟩ := TR0.out
      rcases hl with h0 | ⟨g, off, rfl, hg, hl⟩
      · rw [h0] at hm; exact absurd hm (Nat.not_lt_zero _)
      injection hlv with e1 e2 e3
      subst e1 e3
      obtain ⟨⟨vkb, c0, tb⟩, c1, c2, vi, c3, ti⟩ := tlies_get hl m hmt
      obtain ⟨kba, kbc, rfl, _⟩ := id tb
      obtain ⟨ka, kc, rfl, _⟩ := id ti
      have HG := hide (HX.out g hg)
      have i1 : (0 : Int) ≤ (m : Int) := by omega
      have i2 : (m : Int) < (f.len : Int) := by omega
      have i3 : f.len ≤ 1000000 := OK.out.2.2.1
      have y0 := GG.out.cell (fun h => h) c0
      have y1 := GG.out.cell (fun h => h) c1
      have y2 := GG.out.cell (fun h => h) c2
      have y3 := GG.out.cell (fun h => h) c3
      have KJ := hide (fun w' (gg : Chg (fun _ => False) w1 w') => IH.out f.toL[m] (.agg #[.slice kba (f.toL[m]).bs.len kbc, .int .i64 (f.toL[m]).kd, .int .i64 (f.toL[m]).ix, .slice ka (f.toL[m]).ag.len kc]) _ X w' OKm.out (fun x hx => Nat.lt_of_lt_of_le (HX.out x hx) (GG.out.trans gg).size) ⟨kba, kbc, ka, kc, rfl, tb.chg (GG.out.trans gg) (fun _ _ h => h), ti.chg (GG.out.trans gg) (fun _ _ h => h)⟩ (PIP.out.all (GG.out.trans gg)))
      have HRS := hide (fun (y : Tm × Fs) (h : atR f.toL[m] p = some y) => (by have h1 := atR_size p f.toL[m] y h; have h2 := HSZ.out; have h3 := OK.out.2.2.2.2; dsimp only [Tm.bs, Tm.ag] at *; have := Fs.len_size b; have := Fs.len_size y.2; omega : b.len + y.2.len ≤ 200000))
      clear hl c0 c1 c2 c3 tb ti hb hm SUB HSZ OKm HD HR
      generalize hsub : f.toL[m] = s at *
      obtain ⟨s0, s1, s2, s3⟩ := s
      dsimp only [Tm.bs, Tm.kd, Tm.ix, Tm.ag] at y0 y1 y2 y3 KJ
      clear hsub
      generalize atR (s0, s1, s2, s3) p = RS at *
      have y4 : w1.cell? ⟨P, 3, none⟩ = some (.slice (some ⟨g, off, none⟩) f.len cap) := p3
      clear p3
      go_upto_region 6 with fail
      go_cut [8, 9, 10] (fun s8 s9 s10 wx => ∃ (O : Nat) (xa : Option Addr) (xc : Nat) (va : Option Addr) (vc : Nat) (vl : Value), s8 = .pointer (some ⟨O, 0, none⟩) ∧ s9 = vl ∧ s10 = .bool RS.isSome ∧ Hid (wx.heap[O]? = some (.cells #[.slice xa (RS.getD ((.nil, 0, 0, .nil), .nil)).1.1.len xc, .int .i64 (RS.getD ((.nil, 0, 0, .nil), .nil)).1.2.1, .int .i64 (RS.getD ((.nil, 0, 0, .nil), .nil)).1.2.2.1, .slice va (RS.getD ((.nil, 0, 0, .nil), .nil)).1.2.2.2.len vc] 27)) ∧ Hid (TV wx (New X w1 wx) (.agg #[.slice xa (RS.getD ((.nil, 0, 0, .nil), .nil)).1.1.len xc, .int .i64 (RS.getD ((.nil, 0, 0, .nil), .nil)).1.2.1, .int .i64 (RS.getD ((.nil, 0, 0, .nil), .nil)).1.2.2.1, .slice va (RS.getD ((.nil, 0, 0, .nil), .nil)).1.2.2.2.len vc]) (RS.getD ((.nil, 0, 0, .nil), .nil)).1) ∧ Hid (Ts wx (New X w1 wx) vl (RS.getD ((.nil, 0, 0, .nil), .nil)).2) ∧ Hid (Chg (fun _ => False) w1 wx ∧ w1.heap.size ≤ O))
      case first =>
        have psl := PSL.out
        refine wp_region_held_drew (S := (fun w' => w'.cell? ⟨g, off + m * 4, none⟩ = some (.slice kba s0.len kbc) ∧ w'.cell? ⟨g, off + m * 4 + 1, none⟩ = some (.int .i64 s1) ∧ w'.cell? ⟨g, off + m * 4 + 2, none⟩ = some (.int .i64 s2) ∧ w'.cell? ⟨g, off + m * 4 + 3, none⟩ = some (.slice ka s3.len kc) ∧ w'.cell? ⟨P, 3, none⟩ = some (.slice (some ⟨g, off, none⟩) f.len cap))) (by kernel_rfl) (by go_keep) (fun hHeld => ?_)
        first
          | (refine wpAnyH_take (i := 0) (v := undef) rfl (by kernel_rfl) (by kernel_rfl) (by kernel_rfl) (fun _ _ _ h => h) (Or.inr ⟨by rfl, rfl⟩) (by assumption) ?_)
          | (refine wpAnyH_take (i := 0) (v := ?_) rfl (by kernel_rfl) (by kernel_rfl) (by kernel_rfl) (fun _ _ _ h => h) (Or.inl ⟨by rfl, ?_⟩) (by assumption) ?_
             rotate_left
             (intro w hSw
              (try dsimp only at hSw)
              (go_simp <;> with_reducible rfl)))
        try simp only [Act.put, List.getElem_toArray, List.getElem_cons_zero, List.getElem_cons_succ, List.setIfInBounds_toArray, List.set_cons_zero, List.set_cons_succ]
        first
          | (refine wpAnyH_take (i := 1) (v := undef) rfl (by kernel_rfl) (by kernel_rfl) (by kernel_rfl) (fun _ _ _ h => h) (Or.inr ⟨by rfl, rfl⟩) (by assumption) ?_)
          | (refine wpAnyH_take (i := 1) (v := ?_) rfl (by kernel_rfl) (by kernel_rfl) (by kernel_rfl) (fun _ _ _ h => h) (Or.inl ⟨by rfl, ?_⟩) (by assumption) ?_
             rotate_left
             (intro w hSw
              (try dsimp only at hSw)
              (go_simp <;> with_reducible rfl)))
        try simp only [Act.put, List.getElem_toArray, List.getElem_cons_zero, List.getElem_cons_succ, List.setIfInBounds_toArray, List.set_cons_zero, List.set_cons_succ]
        first
          | (refine wpAnyH_take (i := 2) (v := undef) rfl (by kernel_rfl) (by kernel_rfl) (by kernel_rfl) (fun _ _ _ h => h) (Or.inr ⟨by rfl, rfl⟩) (by assumption) ?_)
          | (refine wpAnyH_take (i := 2) (v := ?_) rfl (by kernel_rfl) (by kernel_rfl) (by kernel_rfl) (fun _ _ _ h => h) (Or.inl ⟨by rfl, ?_⟩) (by assumption) ?_
             rotate_left
             (intro w hSw
              (try dsimp only at hSw)
              (go_simp <;> with_reducible rfl)))
        try simp only [Act.put, List.getElem_toArray, List.getElem_cons_zero, List.getElem_cons_succ, List.setIfInBounds_toArray, List.set_cons_zero, List.set_cons_succ]
        first
          | (refine wpAnyH_take (i := 3) (v := undef) rfl (by kernel_rfl) (by kernel_rfl) (by kernel_rfl) (fun _ _ _ h => h) (Or.inr ⟨by rfl, rfl⟩) (by assumption) ?_)
          | (refine wpAnyH_take (i := 3) (v := ?_) rfl (by kernel_rfl) (by kernel_rfl) (by kernel_rfl) (fun _ _ _ h => h) (Or.inl ⟨by rfl, ?_⟩) (by assumption) ?_
             rotate_left
             (intro w hSw
              (try dsimp only at hSw)
              (go_simp <;> with_reducible rfl)))
        try simp only [Act.put, List.getElem_toArray, List.getElem_cons_zero, List.getElem_cons_succ, List.setIfInBounds_toArray, List.set_cons_zero, List.set_cons_succ]
        first
          | (refine wpAnyH_take (i := 4) (v := undef) rfl (by kernel_rfl) (by kernel_rfl) (by kernel_rfl) (fun _ _ _ h => h) (Or.inr ⟨by rfl, rfl⟩) (by assumption) ?_)
          | (refine wpAnyH_take (i := 4) (v := ?_) rfl (by kernel_rfl) (by kernel_rfl) (by kernel_rfl) (fun _ _ _ h => h) (Or.inl ⟨by rfl, ?_⟩) (by assumption) ?_
             rotate_left
             (intro w hSw
              (try dsimp only at hSw)
              (go_simp <;> with_reducible rfl)))
        try simp only [Act.put, List.getElem_toArray, List.getElem_cons_zero, List.getElem_cons_succ, List.setIfInBounds_toArray, List.set_cons_zero, List.set_cons_succ]
        first
          | (refine wpAnyH_take (i := 5) (v := undef) rfl (by kernel_rfl) (by kernel_rfl) (by kernel_rfl) (fun _ _ _ h => h) (Or.inr ⟨by rfl, rfl⟩) (by assumption) ?_)
          | (refine wpAnyH_take (i := 5) (v := ?_) rfl (by kernel_rfl) (by kernel_rfl) (by kernel_rfl) (fun _ _ _ h => h) (Or.inl ⟨by rfl, ?_⟩) (by assumption) ?_
             rotate_left
             (intro w hSw
              (try dsimp only at hSw)
              (go_simp <;> with_reducible rfl)))
        try simp only [Act.put, List.getElem_toArray, List.getElem_cons_zero, List.getElem_cons_succ, List.setIfInBounds_toArray, List.set_cons_zero, List.set_cons_succ]
        first
          | (refine wpAnyH_take (i := 6) (v := undef) rfl (by kernel_rfl) (by kernel_rfl) (by kernel_rfl) (fun _ _ _ h => h) (Or.inr ⟨by rfl, rfl⟩) (by assumption) ?_)
          | (refine wpAnyH_take (i := 6) (v := ?_) rfl (by kernel_rfl) (by kernel_rfl) (by kernel_rfl) (fun _ _ _ h => h) (Or.inl ⟨by rfl, ?_⟩) (by assumption) ?_
             rotate_left
             (intro w hSw
              (try dsimp only at hSw)
              (go_simp <;> with_reducible rfl)))
        try simp only [Act.put, List.getElem_toArray, List.getElem_cons_zero, List.getElem_cons_succ, List.setIfInBounds_toArray, List.set_cons_zero, List.set_cons_succ]
        refine wpAnyH_ready (rs := [7, 12]) (by kernel_rfl) (by simp) ?_
        refine AllReadyH.cons (i := 7) (o := _) rfl (fun K hK => ?_) ?_
        · go_simp
          refine (KJ.out _ (Chg.refl (fun _ => False) w1).drew).mono ?_
          rintro e w6 ⟨⟨v', vl, rfl, t6, l6⟩, g6⟩
          obtain ⟨xa, xc, va, vc, rfl, _, _⟩ := id t6
          dsimp only [Tm.bs, Tm.kd, Tm.ix, Tm.ag]
          have g6' := (Chg.refl (fun _ => False) w1).drew.trans g6
          have y0a := g6'.cell (fun h => h) y0
          have y1a := g6'.cell (fun h => h) y1
          have y2a := g6'.cell (fun h => h) y2
          have y3a := g6'.cell (fun h => h) y3
          have y4a := g6'.cell (fun h => h) y4
          have T6 := hide t6
          have L6 := hide l6
          have G6 := hide g6'
          clear t6 l6 g6 g6'
          go_simp
          refine hK.out _ _ ⟨y0a, y1a, y2a, y3a, y4a⟩ (fun hHeld => ?_)
          clear hK K
          try simp only [Act.put, List.getElem_toArray, List.getElem_cons_zero, List.getElem_cons_succ, List.setIfInBounds_toArray, List.set_cons_zero, List.set_cons_succ]
          first
            | (refine wpAnyH_take (i := 8) (v := undef) rfl (by kernel_rfl) (by kernel_rfl) (by kernel_rfl) (fun _ _ _ h => h) (Or.inr ⟨by rfl, rfl⟩) (by assumption) ?_)
            | (refine wpAnyH_take (i := 8) (v := ?_) rfl (by kernel_rfl) (by kernel_rfl) (by kernel_rfl) (fun _ _ _ h => h) (Or.inl ⟨by rfl, ?_⟩) (by assumption) ?_
               rotate_left
               (intro w hSw
                (try dsimp only at hSw)
                (go_simp <;> with_reducible rfl)))
          try simp only [Act.put, List.getElem_toArray, List.getElem_cons_zero, List.getElem_cons_succ, List.setIfInBounds_toArray, List.set_cons_zero, List.set_cons_succ]
          first
            | (refine wpAnyH_take (i := 9) (v := undef) rfl (by kernel_rfl) (by kernel_rfl) (by kernel_rfl) (fun _ _ _ h => h) (Or.inr ⟨by rfl, rfl⟩) (by assumption) ?_)
            | (refine wpAnyH_take (i := 9) (v := ?_) rfl (by kernel_rfl) (by kernel_rfl) (by kernel_rfl) (fun _ _ _ h => h) (Or.inl ⟨by rfl, ?_⟩) (by assumption) ?_
               rotate_left
               (intro w hSw
                (try dsimp only at hSw)
                (go_simp <;> with_reducible rfl)))
          try simp only [Act.put, List.getElem_toArray, List.getElem_cons_zero, List.getElem_cons_succ, List.setIfInBounds_toArray, List.set_cons_zero, List.set_cons_succ]
          first
            | (refine wpAnyH_take (i := 10) (v := undef) rfl (by kernel_rfl) (by kernel_rfl) (by kernel_rfl) (fun _ _ _ h => h) (Or.inr ⟨by rfl, rfl⟩) (by assumption) ?_)
            | (refine wpAnyH_take (i := 10) (v := ?_) rfl (by kernel_rfl) (by kernel_rfl) (by kernel_rfl) (fun _ _ _ h => h) (Or.inl ⟨by rfl, ?_⟩) (by assumption) ?_
               rotate_left
               (intro w hSw
                (try dsimp only at hSw)
                (go_simp <;> with_reducible rfl)))
          try simp only [Act.put, List.getElem_toArray, List.getElem_cons_zero, List.getElem_cons_succ, List.setIfInBounds_toArray, List.set_cons_zero, List.set_cons_succ]
          first
            | (refine wpAnyH_take (i := 11) (v := undef) rfl (by kernel_rfl) (by kernel_rfl) (by kernel_rfl) (fun _ _ _ h => h) (Or.inr ⟨by rfl, rfl⟩) (by assumption) ?_)
            | (refine wpAnyH_take (i := 11) (v := ?_) rfl (by kernel_rfl) (by kernel_rfl) (by kernel_rfl) (fun _ _ _ h => h) (Or.inl ⟨by rfl, ?_⟩) (by assumption) ?_
               rotate_left
               (intro w hSw
                (try dsimp only at hSw)
                (go_simp <;> with_reducible rfl)))
          try simp only [Act.put, List.getElem_toArray, List.getElem_cons_zero, List.getElem_cons_succ, List.setIfInBounds_toArray, List.set_cons_zero, List.set_cons_succ]
          refine wpAnyH_ready (rs := [12]) (by kernel_rfl) (by simp) ?_
          refine AllReadyH.cons (i := 12) (o := _) rfl (fun K hK => ?_) ?_
          rotate_left
          · exact AllReadyH.nil
          have GA := al w6 (.cells #[.slice none 0 0, .int .i64 0, .int .i64 0, .slice none 0 0] 27)
          have BO := hide (blk_new w6 (.cells #[.slice none 0 0, .int .i64 0, .int .i64 0, .slice none 0 0] 27))
          have y0b := GA.cell (fun h => h) y0a
          have y1b := GA.cell (fun h => h) y1a
          have y2b := GA.cell (fun h => h) y2a
          have y3b := GA.cell (fun h => h) y3a
          have y4b := GA.cell (fun h => h) y4a
          have T7 := hide (T6.out.chg GA (fun _ _ h => h))
          have L7 := hide (L6.out.chg GA (fun _ _ h => h))
          have G7 := hide (G6.out.trans GA)
          have SZ7 : Hid (w6.heap.size ≤ (w6.alloc (.cells #[.slice none 0 0, .int .i64 0, .int .i64 0, .slice none 0 0] 27)).heap.size) := hide GA.size
          clear GA
          go_simp
          refine hK.out _ _ ⟨y0b, y1b, y2b, y3b, y4b⟩ (fun hHeld => ?_)
          clear hK K
          try simp only [Act.put, List.getElem_toArray, List.getElem_cons_zero, List.getElem_cons_succ, List.setIfInBounds_toArray, List.set_cons_zero, List.set_cons_succ]
          obtain ⟨O, hO⟩ : ∃ O, w6.heap.size = O := ⟨_, rfl⟩
          rw [hO] at BO ⊢
          have HPO : Hid (w1.heap.size ≤ O ∧ P < O ∧ g < O) := hide (by have := HG.out; have := G6.out.size; have := HO.out; omega)
          have XO : Hid (∀ x, New X w1.drew w6 x → ¬ x = O) := hide (fun x hx e => by have := G6.out.size; rcases hx with hx | hx; have := HX.out x hx; have := HO.out; omega; omega)
          have XU : Hid (∀ w' : World, (w6.alloc (.cells #[.slice none 0 0, .int .i64 0, .int .i64 0, .slice none 0 0] 27)).heap.size ≤ w'.heap.size → ∀ x, New X w1.drew w6 x → New X w1 w' x) := hide (fun w' h x hx => by have := SZ7.out; rcases hx with hx | hx; exact Or.inl hx; exact Or.inr ⟨hx.1, by omega⟩)
          clear hO
          generalize w6.alloc (.cells #[.slice none 0 0, .int .i64 0, .int .i64 0, .slice none 0 0] 27) = w7 at *
          refine wpAnyH_ready (rs := [13]) (by kernel_rfl) (by simp) ?_
          refine AllReadyH.cons (i := 13) (o := _) rfl (fun K hK => ?_) ?_
          rotate_left
          · exact AllReadyH.nil
          have b0 := blk_cell BO.out 0
          have ff0 := blk_free BO.out 0
          have b1 := blk_cell BO.out 1
          have ff1 := blk_free BO.out 1
          have b2 := blk_cell BO.out 2
          have ff2 := blk_free BO.out 2
          have b3 := blk_cell BO.out 3
          have ff3 := blk_free BO.out 3
          simp only [List.getElem?_toArray, List.getElem?_cons_zero, List.getElem?_cons_succ] at b0 b1 b2 b3
          have NS : Hid (((((w7.setCell ⟨O, 0, none⟩ (.slice xa (RS.getD ((.nil, 0, 0, .nil), .nil)).1.1.len xc)).setCell ⟨O, 1, none⟩ (.int .i64 (RS.getD ((.nil, 0, 0, .nil), .nil)).1.2.1)).setCell ⟨O, 2, none⟩ (.int .i64 (RS.getD ((.nil, 0, 0, .nil), .nil)).1.2.2.1)).setCell ⟨O, 3, none⟩ (.slice va (RS.getD ((.nil, 0, 0, .nil), .nil)).1.2.2.2.len vc)).heap[O]? = some (.cells #[.slice xa (RS.getD ((.nil, 0, 0, .nil), .nil)).1.1.len xc, .int .i64 (RS.getD ((.nil, 0, 0, .nil), .nil)).1.2.1, .int .i64 (RS.getD ((.nil, 0, 0, .nil), .nil)).1.2.2.1, .slice va (RS.getD ((.nil, 0, 0, .nil), .nil)).1.2.2.2.len vc] 27) ∧ Chg (fun x => x = O) w7 ((((w7.setCell ⟨O, 0, none⟩ (.slice xa (RS.getD ((.nil, 0, 0, .nil), .nil)).1.1.len xc)).setCell ⟨O, 1, none⟩ (.int .i64 (RS.getD ((.nil, 0, 0, .nil), .nil)).1.2.1)).setCell ⟨O, 2, none⟩ (.int .i64 (RS.getD ((.nil, 0, 0, .nil), .nil)).1.2.2.1)).setCell ⟨O, 3, none⟩ (.slice va (RS.getD ((.nil, 0, 0, .nil), .nil)).1.2.2.2.len vc))) := hide ⟨(blk_set (blk_set (blk_set (blk_set BO.out 0 (.slice xa (RS.getD ((.nil, 0, 0, .nil), .nil)).1.1.len xc)) 1 (.int .i64 (RS.getD ((.nil, 0, 0, .nil), .nil)).1.2.1)) 2 (.int .i64 (RS.getD ((.nil, 0, 0, .nil), .nil)).1.2.2.1)) 3 (.slice va (RS.getD ((.nil, 0, 0, .nil), .nil)).1.2.2.2.len vc)), ((((Chg.set w7 O 0 (.slice xa (RS.getD ((.nil, 0, 0, .nil), .nil)).1.1.len xc)).trans (Chg.set (w7.setCell ⟨O, 0, none⟩ (.slice xa (RS.getD ((.nil, 0, 0, .nil), .nil)).1.1.len xc)) O 1 (.int .i64 (RS.getD ((.nil, 0, 0, .nil), .nil)).1.2.1))).trans (Chg.set ((w7.setCell ⟨O, 0, none⟩ (.slice xa (RS.getD ((.nil, 0, 0, .nil), .nil)).1.1.len xc)).setCell ⟨O, 1, none⟩ (.int .i64 (RS.getD ((.nil, 0, 0, .nil), .nil)).1.2.1)) O 2 (.int .i64 (RS.getD ((.nil, 0, 0, .nil), .nil)).1.2.2.1))).trans (Chg.set (((w7.setCell ⟨O, 0, none⟩ (.slice xa (RS.getD ((.nil, 0, 0, .nil), .nil)).1.1.len xc)).setCell ⟨O, 1, none⟩ (.int .i64 (RS.getD ((.nil, 0, 0, .nil), .nil)).1.2.1)).setCell ⟨O, 2, none⟩ (.int .i64 (RS.getD ((.nil, 0, 0, .nil), .nil)).1.2.2.1)) O 3 (.slice va (RS.getD ((.nil, 0, 0, .nil), .nil)).1.2.2.2.len vc)))⟩
          go_simp
          refine hK.out _ _ ⟨NS.out.2.cell (by have := HPO.out; omega) y0b, NS.out.2.cell (by have := HPO.out; omega) y1b, NS.out.2.cell (by have := HPO.out; omega) y2b, NS.out.2.cell (by have := HPO.out; omega) y3b, NS.out.2.cell (by have := HPO.out; omega) y4b⟩ (fun hHeld => ?_)
          clear hK K
          try simp only [Act.put, List.getElem_toArray, List.getElem_cons_zero, List.getElem_cons_succ, List.setIfInBounds_toArray, List.set_cons_zero, List.set_cons_succ]
          first
            | (refine wpAnyH_take (i := 14) (v := undef) rfl (by kernel_rfl) (by kernel_rfl) (by kernel_rfl) (fun _ _ _ h => h) (Or.inr ⟨by rfl, rfl⟩) (by assumption) ?_)
            | (refine wpAnyH_take (i := 14) (v := ?_) rfl (by kernel_rfl) (by kernel_rfl) (by kernel_rfl) (fun _ _ _ h => h) (Or.inl ⟨by rfl, ?_⟩) (by assumption) ?_
               rotate_left
               (intro w hSw
                (try dsimp only at hSw)
                (go_simp <;> with_reducible rfl)))
          try simp only [Act.put, List.getElem_toArray, List.getElem_cons_zero, List.getElem_cons_succ, List.setIfInBounds_toArray, List.set_cons_zero, List.set_cons_succ]
          first
            | (refine wpAnyH_take (i := 15) (v := undef) rfl (by kernel_rfl) (by kernel_rfl) (by kernel_rfl) (fun _ _ _ h => h) (Or.inr ⟨by rfl, rfl⟩) (by assumption) ?_)
            | (refine wpAnyH_take (i := 15) (v := ?_) rfl (by kernel_rfl) (by kernel_rfl) (by kernel_rfl) (fun _ _ _ h => h) (Or.inl ⟨by rfl, ?_⟩) (by assumption) ?_
               rotate_left
               (intro w hSw
                (try dsimp only at hSw)
                (go_simp <;> with_reducible rfl)))
          try simp only [Act.put, List.getElem_toArray, List.getElem_cons_zero, List.getElem_cons_succ, List.setIfInBounds_toArray, List.set_cons_zero, List.set_cons_succ]
          refine wpAnyH_done (by kernel_rfl) ?_ _
          go_wp2_with fail
          go_meet
          exact ⟨O, xa, xc, va, vc, vl, rfl, rfl, rfl, hide NS.out.1, hide ((T7.out.chg NS.out.2 (fun x hx e => XO.out x hx e)).up (XU.out _ NS.out.2.size)), hide ((L7.out.chg NS.out.2 (fun x hx e => XO.out x hx e)).up (XU.out _ NS.out.2.size)), hide ⟨((G7.out.none (S := fun x => x = O)).trans NS.out.2).mono (fun x hx e => by have := HPO.out; omega), by have := HPO.out; omega⟩⟩
        refine AllReadyH.cons (i := 12) (o := _) rfl (fun K hK => ?_) ?_
        rotate_left
        · exact AllReadyH.nil
        have GA := (al w1 (.cells #[.slice none 0 0, .int .i64 0, .int .i64 0, .slice none 0 0] 27)).drew
        have BO : Hid ((w1.alloc (.cells #[.slice none 0 0, .int .i64 0, .int .i64 0, .slice none 0 0] 27)).drew.heap[w1.heap.size]? = some (.cells #[.slice none 0 0, .int .i64 0, .int .i64 0, .slice none 0 0] 27)) := hide (blk_new w1 (.cells #[.slice none 0 0, .int .i64 0, .int .i64 0, .slice none 0 0] 27))
        have y0a := GA.cell (fun h => h) y0
        have y1a := GA.cell (fun h => h) y1
        have y2a := GA.cell (fun h => h) y2
        have y3a := GA.cell (fun h => h) y3
        have y4a := GA.cell (fun h => h) y4
        have G5 := hide GA
        have SZ7 : Hid (w1.heap.size < (w1.alloc (.cells #[.slice none 0 0, .int .i64 0, .int .i64 0, .slice none 0 0] 27)).drew.heap.size) := hide (blk_lt BO.out)
        clear GA
        go_simp
        refine hK.out _ _ ⟨y0a, y1a, y2a, y3a, y4a⟩ (fun hHeld => ?_)
        clear hK K
        try simp only [Act.put, List.getElem_toArray, List.getElem_cons_zero, List.getElem_cons_succ, List.setIfInBounds_toArray, List.set_cons_zero, List.set_cons_succ]
        obtain ⟨O, hO⟩ : ∃ O, w1.heap.size = O := ⟨_, rfl⟩
        rw [hO] at BO ⊢
        have HPO : Hid (w1.heap.size ≤ O ∧ P < O ∧ g < O) := hide (by have := HG.out; have := HO.out; omega)
        have HO7 := hide hO
        clear hO
        generalize (w1.alloc (.cells #[.slice none 0 0, .int .i64 0, .int .i64 0, .slice none 0 0] 27)).drew = w5 at *
        refine wpAnyH_ready (rs := [7]) (by kernel_rfl) (by simp) ?_
        refine AllReadyH.cons (i := 7) (o := _) rfl (fun K hK => ?_) ?_
        rotate_left
        · exact AllReadyH.nil
        go_simp
        refine (KJ.out _ G5.out).mono ?_
        rintro e w6 ⟨⟨v', vl, rfl, t6, l6⟩, g6⟩
        obtain ⟨xa, xc, va, vc, rfl, _, _⟩ := id t6
        dsimp only [Tm.bs, Tm.kd, Tm.ix, Tm.ag]
        have y0b := g6.cell (fun h => h) y0a
        have y1b := g6.cell (fun h => h) y1a
        have y2b := g6.cell (fun h => h) y2a
        have y3b := g6.cell (fun h => h) y3a
        have y4b := g6.cell (fun h => h) y4a
        have BO := hide (g6.blk (fun h => h) BO.out)
        have T7 := hide t6
        have L7 := hide l6
        have G7 := hide (G5.out.trans g6)
        have XO : Hid (∀ x, New X w5 w6 x → ¬ x = O) := hide (fun x hx e => by have := SZ7.out; have := HO7.out; rcases hx with hx | hx; have := HX.out x hx; have := HO.out; omega; omega)
        have XU : Hid (∀ w' : World, w6.heap.size ≤ w'.heap.size → ∀ x, New X w5 w6 x → New X w1 w' x) := hide (fun w' h x hx => by have := SZ7.out; rcases hx with hx | hx; exact Or.inl hx; exact Or.inr ⟨by omega, by omega⟩)
        clear t6 l6 g6
        go_simp
        refine hK.out _ _ ⟨y0b, y1b, y2b, y3b, y4b⟩ (fun hHeld => ?_)
        clear hK K
        try simp only [Act.put, List.getElem_toArray, List.getElem_cons_zero, List.getElem_cons_succ, List.setIfInBounds_toArray, List.set_cons_zero, List.set_cons_succ]
        first
          | (refine wpAnyH_take (i := 8) (v := undef) rfl (by kernel_rfl) (by kernel_rfl) (by kernel_rfl) (fun _ _ _ h => h) (Or.inr ⟨by rfl, rfl⟩) (by assumption) ?_)
          | (refine wpAnyH_take (i := 8) (v := ?_) rfl (by kernel_rfl) (by kernel_rfl) (by kernel_rfl) (fun _ _ _ h => h) (Or.inl ⟨by rfl, ?_⟩) (by assumption) ?_
             rotate_left
             (intro w hSw
              (try dsimp only at hSw)
              (go_simp <;> with_reducible rfl)))
        try simp only [Act.put, List.getElem_toArray, List.getElem_cons_zero, List.getElem_cons_succ, List.setIfInBounds_toArray, List.set_cons_zero, List.set_cons_succ]
        first
          | (refine wpAnyH_take (i := 9) (v := undef) rfl (by kernel_rfl) (by kernel_rfl) (by kernel_rfl) (fun _ _ _ h => h) (Or.inr ⟨by rfl, rfl⟩) (by assumption) ?_)
          | (refine wpAnyH_take (i := 9) (v := ?_) rfl (by kernel_rfl) (by kernel_rfl) (by kernel_rfl) (fun _ _ _ h => h) (Or.inl ⟨by rfl, ?_⟩) (by assumption) ?_
             rotate_left
             (intro w hSw
              (try dsimp only at hSw)
              (go_simp <;> with_reducible rfl)))
        try simp only [Act.put, List.getElem_toArray, List.getElem_cons_zero, List.getElem_cons_succ, List.setIfInBounds_toArray, List.set_cons_zero, List.set_cons_succ]
        first
          | (refine wpAnyH_take (i := 10) (v := undef) rfl (by kernel_rfl) (by kernel_rfl) (by kernel_rfl) (fun _ _ _ h => h) (Or.inr ⟨by rfl, rfl⟩) (by assumption) ?_)
          | (refine wpAnyH_take (i := 10) (v := ?_) rfl (by kernel_rfl) (by kernel_rfl) (by kernel_rfl) (fun _ _ _ h => h) (Or.inl ⟨by rfl, ?_⟩) (by assumption) ?_
             rotate_left
             (intro w hSw
              (try dsimp only at hSw)
              (go_simp <;> with_reducible rfl)))
        try simp only [Act.put, List.getElem_toArray, List.getElem_cons_zero, List.getElem_cons_succ, List.setIfInBounds_toArray, List.set_cons_zero, List.set_cons_succ]
        first
          | (refine wpAnyH_take (i := 11) (v := undef) rfl (by kernel_rfl) (by kernel_rfl) (by kernel_rfl) (fun _ _ _ h => h) (Or.inr ⟨by rfl, rfl⟩) (by assumption) ?_)
          | (refine wpAnyH_take (i := 11) (v := ?_) rfl (by kernel_rfl) (by kernel_rfl) (by kernel_rfl) (fun _ _ _ h => h) (Or.inl ⟨by rfl, ?_⟩) (by assumption) ?_
             rotate_left
             (intro w hSw
              (try dsimp only at hSw)
              (go_simp <;> with_reducible rfl)))
        try simp only [Act.put, List.getElem_toArray, List.getElem_cons_zero, List.getElem_cons_succ, List.setIfInBounds_toArray, List.set_cons_zero, List.set_cons_succ]
        refine wpAnyH_ready (rs := [13]) (by kernel_rfl) (by simp) ?_
        refine AllReadyH.cons (i := 13) (o := _) rfl (fun K hK => ?_) ?_
        rotate_left
        · exact AllReadyH.nil
        have b0 := blk_cell BO.out 0
        have ff0 := blk_free BO.out 0
        have b1 := blk_cell BO.out 1
        have ff1 := blk_free BO.out 1
        have b2 := blk_cell BO.out 2
        have ff2 := blk_free BO.out 2
        have b3 := blk_cell BO.out 3
        have ff3 := blk_free BO.out 3
        simp only [List.getElem?_toArray, List.getElem?_cons_zero, List.getElem?_cons_succ] at b0 b1 b2 b3
        have NS : Hid (((((w6.setCell ⟨O, 0, none⟩ (.slice xa (RS.getD ((.nil, 0, 0, .nil), .nil)).1.1.len xc)).setCell ⟨O, 1, none⟩ (.int .i64 (RS.getD ((.nil, 0, 0, .nil), .nil)).1.2.1)).setCell ⟨O, 2, none⟩ (.int .i64 (RS.getD ((.nil, 0, 0, .nil), .nil)).1.2.2.1)).setCell ⟨O, 3, none⟩ (.slice va (RS.getD ((.nil, 0, 0, .nil), .nil)).1.2.2.2.len vc)).heap[O]? = some (.cells #[.slice xa (RS.getD ((.nil, 0, 0, .nil), .nil)).1.1.len xc, .int .i64 (RS.getD ((.nil, 0, 0, .nil), .nil)).1.2.1, .int .i64 (RS.getD ((.nil, 0, 0, .nil), .nil)).1.2.2.1, .slice va (RS.getD ((.nil, 0, 0, .nil), .nil)).1.2.2.2.len vc] 27) ∧ Chg (fun x => x = O) w6 ((((w6.setCell ⟨O, 0, none⟩ (.slice xa (RS.getD ((.nil, 0, 0, .nil), .nil)).1.1.len xc)).setCell ⟨O, 1, none⟩ (.int .i64 (RS.getD ((.nil, 0, 0, .nil), .nil)).1.2.1)).setCell ⟨O, 2, none⟩ (.int .i64 (RS.getD ((.nil, 0, 0, .nil), .nil)).1.2.2.1)).setCell ⟨O, 3, none⟩ (.slice va (RS.getD ((.nil, 0, 0, .nil), .nil)).1.2.2.2.len vc))) := hide ⟨(blk_set (blk_set (blk_set (blk_set BO.out 0 (.slice xa (RS.getD ((.nil, 0, 0, .nil), .nil)).1.1.len xc)) 1 (.int .i64 (RS.getD ((.nil, 0, 0, .nil), .nil)).1.2.1)) 2 (.int .i64 (RS.getD ((.nil, 0, 0, .nil), .nil)).1.2.2.1)) 3 (.slice va (RS.getD ((.nil, 0, 0, .nil), .nil)).1.2.2.2.len vc)), ((((Chg.set w6 O 0 (.slice xa (RS.getD ((.nil, 0, 0, .nil), .nil)).1.1.len xc)).trans (Chg.set (w6.setCell ⟨O, 0, none⟩ (.slice xa (RS.getD ((.nil, 0, 0, .nil), .nil)).1.1.len xc)) O 1 (.int .i64 (RS.getD ((.nil, 0, 0, .nil), .nil)).1.2.1))).trans (Chg.set ((w6.setCell ⟨O, 0, none⟩ (.slice xa (RS.getD ((.nil, 0, 0, .nil), .nil)).1.1.len xc)).setCell ⟨O, 1, none⟩ (.int .i64 (RS.getD ((.nil, 0, 0, .nil), .nil)).1.2.1)) O 2 (.int .i64 (RS.getD ((.nil, 0, 0, .nil), .nil)).1.2.2.1))).trans (Chg.set (((w6.setCell ⟨O, 0, none⟩ (.slice xa (RS.getD ((.nil, 0, 0, .nil), .nil)).1.1.len xc)).setCell ⟨O, 1, none⟩ (.int .i64 (RS.getD ((.nil, 0, 0, .nil), .nil)).1.2.1)).setCell ⟨O, 2, none⟩ (.int .i64 (RS.getD ((.nil, 0, 0, .nil), .nil)).1.2.2.1)) O 3 (.slice va (RS.getD ((.nil, 0, 0, .nil), .nil)).1.2.2.2.len vc)))⟩
        go_simp
        refine hK.out _ _ ⟨NS.out.2.cell (by have := HPO.out; omega) y0b, NS.out.2.cell (by have := HPO.out; omega) y1b, NS.out.2.cell (by have := HPO.out; omega) y2b, NS.out.2.cell (by have := HPO.out; omega) y3b, NS.out.2.cell (by have := HPO.out; omega) y4b⟩ (fun hHeld => ?_)
        clear hK K
        try simp only [Act.put, List.getElem_toArray, List.getElem_cons_zero, List.getElem_cons_succ, List.setIfInBounds_toArray, List.set_cons_zero, List.set_cons_succ]
        first
          | (refine wpAnyH_take (i := 14) (v := undef) rfl (by kernel_rfl) (by kernel_rfl) (by kernel_rfl) (fun _ _ _ h => h) (Or.inr ⟨by rfl, rfl⟩) (by assumption) ?_)
          | (refine wpAnyH_take (i := 14) (v := ?_) rfl (by kernel_rfl) (by kernel_rfl) (by kernel_rfl) (fun _ _ _ h => h) (Or.inl ⟨by rfl, ?_⟩) (by assumption) ?_
             rotate_left
             (intro w hSw
              (try dsimp only at hSw)
              (go_simp <;> with_reducible rfl)))
        try simp only [Act.put, List.getElem_toArray, List.getElem_cons_zero, List.getElem_cons_succ, List.setIfInBounds_toArray, List.set_cons_zero, List.set_cons_succ]
        first
          | (refine wpAnyH_take (i := 15) (v := undef) rfl (by kernel_rfl) (by kernel_rfl) (by kernel_rfl) (fun _ _ _ h => h) (Or.inr ⟨by rfl, rfl⟩) (by assumption) ?_)
          | (refine wpAnyH_take (i := 15) (v := ?_) rfl (by kernel_rfl) (by kernel_rfl) (by kernel_rfl) (fun _ _ _ h => h) (Or.inl ⟨by rfl, ?_⟩) (by assumption) ?_
             rotate_left
             (intro w hSw
              (try dsimp only at hSw)
              (go_simp <;> with_reducible rfl)))
        try simp only [Act.put, List.getElem_toArray, List.getElem_cons_zero, List.getElem_cons_succ, List.setIfInBounds_toArray, List.set_cons_zero, List.set_cons_succ]
        refine wpAnyH_done (by kernel_rfl) ?_ _
        go_wp2_with fail
        go_meet
        exact ⟨O, xa, xc, va, vc, vl, rfl, rfl, rfl, hide NS.out.1, hide ((T7.out.chg NS.out.2 (fun x hx e => XO.out x hx e)).up (XU.out _ NS.out.2.size)), hide ((L7.out.chg NS.out.2 (fun x hx e => XO.out x hx e)).up (XU.out _ NS.out.2.size)), hide ⟨((G7.out.none (S := fun x => x = O)).trans NS.out.2).mono (fun x hx e => by have := HPO.out; omega), by have := HPO.out; omega⟩⟩
      case rest =>
      obtain ⟨O, xa, xc, va, vc, vl, rfl, e9, rfl, BO, TVO, TSO, GO⟩ := hcut
      subst e9
      clear y0 y1 y2 y3 y4 KJ IH
      generalize wc = w2 at *
      have BP2 := hide (GO.out.1.blk (fun h => h) BP.out)
      have BR2 := hide (GO.out.1.blk (fun h => h) BR.out)
      have HO2 : Hid (R < O ∧ O < w2.heap.size ∧ P < R ∧ w.heap.size = P) := hide (by have := HO.out; have := GO.out.2; have := blk_lt BO.out; omega)
      have GW2 := hide (GG.out.trans GO.out.1)
      have TB2 := hide (TB0.out.chg GW2.out (fun _ _ h => h))
      have HX2 : Hid (∀ x, New X w1 w2 x → x < w2.heap.size ∧ (x < P ∨ R < x)) := hide (fun x hx => by have := GO.out.1.size; rcases hx with hx | hx; have := HX.out x hx; have := HO.out; omega; have := HO.out; omega)
      clear BP BR
      cases RS with
      | none =>
        have EN : Hid (RES = none) := hide (by rw [← HR2.out]; rfl)
        simp only [Option.isSome_none] at *
        have b0 := blk_cell BR2.out 0
        have ff0 := blk_free BR2.out 0
        have b1 := blk_cell BR2.out 1
        have ff1 := blk_free BR2.out 1
        have b2 := blk_cell BR2.out 2
        have ff2 := blk_free BR2.out 2
        have b3 := blk_cell BR2.out 3
        have ff3 := blk_free BR2.out 3
        simp only [List.getElem?_toArray, List.getElem?_cons_zero, List.getElem?_cons_succ] at b0 b1 b2 b3
        have NZ : Hid (((((w2.setCell ⟨R, 0, none⟩ (.slice none 0 0)).setCell ⟨R, 1, none⟩ (.int .i64 0)).setCell ⟨R, 2, none⟩ (.int .i64 0)).setCell ⟨R, 3, none⟩ (.slice none 0 0)).heap[R]? = some (.cells #[.slice none 0 0, .int .i64 0, .int .i64 0, .slice none 0 0] 27) ∧ Chg (fun x => x = R) w2 ((((w2.setCell ⟨R, 0, none⟩ (.slice none 0 0)).setCell ⟨R, 1, none⟩ (.int .i64 0)).setCell ⟨R, 2, none⟩ (.int .i64 0)).setCell ⟨R, 3, none⟩ (.slice none 0 0))) := hide ⟨(blk_set (blk_set (blk_set (blk_set BR2.out 0 (.slice none 0 0)) 1 (.int .i64 0)) 2 (.int .i64 0)) 3 (.slice none 0 0)), ((((Chg.set w2 R 0 (.slice none 0 0)).trans (Chg.set (w2.setCell ⟨R, 0, none⟩ (.slice none 0 0)) R 1 (.int .i64 0))).trans (Chg.set ((w2.setCell ⟨R, 0, none⟩ (.slice none 0 0)).setCell ⟨R, 1, none⟩ (.int .i64 0)) R 2 (.int .i64 0))).trans (Chg.set (((w2.setCell ⟨R, 0, none⟩ (.slice none 0 0)).setCell ⟨R, 1, none⟩ (.int .i64 0)).setCell ⟨R, 2, none⟩ (.int .i64 0)) R 3 (.slice none 0 0)))⟩
        have GZ : Hid (Chg (fun _ => False) w ((((w2.setCell ⟨R, 0, none⟩ (.slice none 0 0)).setCell ⟨R, 1, none⟩ (.int .i64 0)).setCell ⟨R, 2, none⟩ (.int .i64 0)).setCell ⟨R, 3, none⟩ (.slice none 0 0))) := hide ((((GW2.out).none (S := fun x => x = R)).trans NZ.out.2).mono (fun x hx e => by have := HO2.out; omega))
        go_wp2_with fail
        generalize ((((w2.setCell ⟨R, 0, none⟩ (.slice none 0 0)).setCell ⟨R, 1, none⟩ (.int .i64 0)).setCell ⟨R, 2, none⟩ (.int .i64 0)).setCell ⟨R, 3, none⟩ (.slice none 0 0)) = wF at *
        have r0 := blk_cell NZ.out.1 0
        have r1 := blk_cell NZ.out.1 1
        have r2 := blk_cell NZ.out.1 2
        have r3 := blk_cell NZ.out.1 3
        refine bodyPost_ret (v := .tuple #[.agg #[.slice none 0 0, .int .i64 0, .int .i64 0, .slice none 0 0], .slice none 0 0, .bool false]) (by simp [results, Tryd.results13, go_sem, r0, r1, r2, r3]) rfl ?_
        exact ⟨⟨_, _, by rw [EN.out]; rfl, by rw [EN.out]; exact TV.zero _ _, by rw [EN.out]; exact Ts.nil _ _⟩, GZ.out⟩
      | some y =>
        have ER : Hid (RES = some (y.1, b.app y.2)) := hide (by rw [← HR2.out]; rfl)
        have HLN := hide (HRS.out y rfl)
        simp only [Option.getD_some, Option.isSome_some] at *
        obtain ⟨⟨y0, y1, y2, y3⟩, yl⟩ := y
        dsimp only at *
        clear HR2 HRS
        obtain ⟨la, lc, rfl, _⟩ := id TSO.out
        have BH := hide (fun w' (gg : Chg (fun _ => False) w2 w') => behind_any b yl HLN.out (.slice ba b.len bc) (.slice la yl.len lc) (New X w1 w2) w' (fun x hx => Nat.lt_of_lt_of_le (HX2.out x hx).1 gg.size) ((TB2.out.chg gg (fun _ _ h => h)).up (fun x hx => Or.inl hx)) (TSO.out.chg gg (fun _ _ h => h)))
        go_upto_region 9 with fail
        have x0 := blk_cell BO.out 0
        have x1 := blk_cell BO.out 1
        have x2 := blk_cell BO.out 2
        have x3 := blk_cell BO.out 3
        have x4 := blk_cell BP2.out 0
        simp only [List.getElem?_toArray, List.getElem?_cons_zero, List.getElem?_cons_succ] at x0 x1 x2 x3 x4
        refine wp_region_held_drew (S := (fun w' => w'.cell? ⟨O, 0, none⟩ = some (.slice xa y0.len xc) ∧ w'.cell? ⟨O, 1, none⟩ = some (.int .i64 y1) ∧ w'.cell? ⟨O, 2, none⟩ = some (.int .i64 y2) ∧ w'.cell? ⟨O, 3, none⟩ = some (.slice va y3.len vc) ∧ w'.cell? ⟨P, 0, none⟩ = some (.slice ba b.len bc))) (by kernel_rfl) (by go_keep) (fun hHeld => ?_)
        first
          | (refine wpAnyH_take (i := 0) (v := undef) rfl (by kernel_rfl) (by kernel_rfl) (by kernel_rfl) (fun _ _ _ h => h) (Or.inr ⟨by rfl, rfl⟩) (by assumption) ?_)
          | (refine wpAnyH_take (i := 0) (v := ?_) rfl (by kernel_rfl) (by kernel_rfl) (by kernel_rfl) (fun _ _ _ h => h) (Or.inl ⟨by rfl, ?_⟩) (by assumption) ?_
             rotate_left
             (intro w hSw
              (try dsimp only at hSw)
              (go_simp <;> with_reducible rfl)))
        try simp only [Act.put, List.getElem_toArray, List.getElem_cons_zero, List.getElem_cons_succ, List.setIfInBounds_toArray, List.set_cons_zero, List.set_cons_succ]
        first
          | (refine wpAnyH_take (i := 1) (v := undef) rfl (by kernel_rfl) (by kernel_rfl) (by kernel_rfl) (fun _ _ _ h => h) (Or.inr ⟨by rfl, rfl⟩) (by assumption) ?_)
          | (refine wpAnyH_take (i := 1) (v := ?_) rfl (by kernel_rfl) (by kernel_rfl) (by kernel_rfl) (fun _ _ _ h => h) (Or.inl ⟨by rfl, ?_⟩) (by assumption) ?_
             rotate_left
             (intro w hSw
              (try dsimp only at hSw)
              (go_simp <;> with_reducible rfl)))
        try simp only [Act.put, List.getElem_toArray, List.getElem_cons_zero, List.getElem_cons_succ, List.setIfInBounds_toArray, List.set_cons_zero, List.set_cons_succ]
        first
          | (refine wpAnyH_take (i := 2) (v := undef) rfl (by kernel_rfl) (by kernel_rfl) (by kernel_rfl) (fun _ _ _ h => h) (Or.inr ⟨by rfl, rfl⟩) (by assumption) ?_)
          | (refine wpAnyH_take (i := 2) (v := ?_) rfl (by kernel_rfl) (by kernel_rfl) (by kernel_rfl) (fun _ _ _ h => h) (Or.inl ⟨by rfl, ?_⟩) (by assumption) ?_
             rotate_left
             (intro w hSw
              (try dsimp only at hSw)
              (go_simp <;> with_reducible rfl)))
        try simp only [Act.put, List.getElem_toArray, List.getElem_cons_zero, List.getElem_cons_succ, List.setIfInBounds_toArray, List.set_cons_zero, List.set_cons_succ]
        first
          | (refine wpAnyH_take (i := 3) (v := undef) rfl (by kernel_rfl) (by kernel_rfl) (by kernel_rfl) (fun _ _ _ h => h) (Or.inr ⟨by rfl, rfl⟩) (by assumption) ?_)
          | (refine wpAnyH_take (i := 3) (v := ?_) rfl (by kernel_rfl) (by kernel_rfl) (by kernel_rfl) (fun _ _ _ h => h) (Or.inl ⟨by rfl, ?_⟩) (by assumption) ?_
             rotate_left
             (intro w hSw
              (try dsimp only at hSw)
              (go_simp <;> with_reducible rfl)))
        try simp only [Act.put, List.getElem_toArray, List.getElem_cons_zero, List.getElem_cons_succ, List.setIfInBounds_toArray, List.set_cons_zero, List.set_cons_succ]
        refine wpAnyH_ready (rs := [4]) (by kernel_rfl) (by simp) ?_
        refine AllReadyH.cons (i := 4) (o := _) rfl (fun K hK => ?_) ?_
        rotate_left
        · exact AllReadyH.nil
        go_simp
        refine (BH.out _ (Chg.refl (fun _ => False) w2).drew).mono ?_
        rintro e w6 ⟨⟨vz, rfl, tz⟩, g6⟩
        have g6' := (Chg.refl (fun _ => False) w2).drew.trans g6
        have x0a := g6'.cell (fun h => h) x0
        have x1a := g6'.cell (fun h => h) x1
        have x2a := g6'.cell (fun h => h) x2
        have x3a := g6'.cell (fun h => h) x3
        have x4a := g6'.cell (fun h => h) x4
        have TZ := hide tz
        have TVZ := hide (TVO.out.chg g6' (fun _ _ h => h))
        have G6 := hide (GW2.out.trans g6')
        have S6 : Hid (w2.heap.size ≤ w6.heap.size) := hide g6'.size
        have BR6 := hide (g6'.blk (fun h => h) BR2.out)
        clear tz g6 g6'
        go_simp
        refine hK.out _ _ ⟨x0a, x1a, x2a, x3a, x4a⟩ (fun hHeld => ?_)
        clear hK K
        try simp only [Act.put, List.getElem_toArray, List.getElem_cons_zero, List.getElem_cons_succ, List.setIfInBounds_toArray, List.set_cons_zero, List.set_cons_succ]
        refine wpAnyH_ready (rs := [5]) (by kernel_rfl) (by simp) ?_
        refine AllReadyH.cons (i := 5) (o := _) rfl (fun K hK => ?_) ?_
        rotate_left
        · exact AllReadyH.nil
        have b0 := blk_cell BR6.out 0
        have ff0 := blk_free BR6.out 0
        have b1 := blk_cell BR6.out 1
        have ff1 := blk_free BR6.out 1
        have b2 := blk_cell BR6.out 2
        have ff2 := blk_free BR6.out 2
        have b3 := blk_cell BR6.out 3
        have ff3 := blk_free BR6.out 3
        simp only [List.getElem?_toArray, List.getElem?_cons_zero, List.getElem?_cons_succ] at b0 b1 b2 b3
        have NS : Hid (((((w6.setCell ⟨R, 0, none⟩ (.slice xa y0.len xc)).setCell ⟨R, 1, none⟩ (.int .i64 y1)).setCell ⟨R, 2, none⟩ (.int .i64 y2)).setCell ⟨R, 3, none⟩ (.slice va y3.len vc)).heap[R]? = some (.cells #[.slice xa y0.len xc, .int .i64 y1, .int .i64 y2, .slice va y3.len vc] 27) ∧ Chg (fun x => x = R) w6 ((((w6.setCell ⟨R, 0, none⟩ (.slice xa y0.len xc)).setCell ⟨R, 1, none⟩ (.int .i64 y1)).setCell ⟨R, 2, none⟩ (.int .i64 y2)).setCell ⟨R, 3, none⟩ (.slice va y3.len vc))) := hide ⟨(blk_set (blk_set (blk_set (blk_set BR6.out 0 (.slice xa y0.len xc)) 1 (.int .i64 y1)) 2 (.int .i64 y2)) 3 (.slice va y3.len vc)), ((((Chg.set w6 R 0 (.slice xa y0.len xc)).trans (Chg.set (w6.setCell ⟨R, 0, none⟩ (.slice xa y0.len xc)) R 1 (.int .i64 y1))).trans (Chg.set ((w6.setCell ⟨R, 0, none⟩ (.slice xa y0.len xc)).setCell ⟨R, 1, none⟩ (.int .i64 y1)) R 2 (.int .i64 y2))).trans (Chg.set (((w6.setCell ⟨R, 0, none⟩ (.slice xa y0.len xc)).setCell ⟨R, 1, none⟩ (.int .i64 y1)).setCell ⟨R, 2, none⟩ (.int .i64 y2)) R 3 (.slice va y3.len vc)))⟩
        go_simp
        refine hK.out _ _ ⟨NS.out.2.cell (by have := HO2.out; omega) x0a, NS.out.2.cell (by have := HO2.out; omega) x1a, NS.out.2.cell (by have := HO2.out; omega) x2a, NS.out.2.cell (by have := HO2.out; omega) x3a, NS.out.2.cell (by have := HO2.out; omega) x4a⟩ (fun hHeld => ?_)
        clear hK K
        try simp only [Act.put, List.getElem_toArray, List.getElem_cons_zero, List.getElem_cons_succ, List.setIfInBounds_toArray, List.set_cons_zero, List.set_cons_succ]
        first
          | (refine wpAnyH_take (i := 6) (v := undef) rfl (by kernel_rfl) (by kernel_rfl) (by kernel_rfl) (fun _ _ _ h => h) (Or.inr ⟨by rfl, rfl⟩) (by assumption) ?_)
          | (refine wpAnyH_take (i := 6) (v := ?_) rfl (by kernel_rfl) (by kernel_rfl) (by kernel_rfl) (fun _ _ _ h => h) (Or.inl ⟨by rfl, ?_⟩) (by assumption) ?_
             rotate_left
             (intro w hSw
              (try dsimp only at hSw)
              (go_simp <;> with_reducible rfl)))
        try simp only [Act.put, List.getElem_toArray, List.getElem_cons_zero, List.getElem_cons_succ, List.setIfInBounds_toArray, List.set_cons_zero, List.set_cons_succ]
        first
          | (refine wpAnyH_take (i := 7) (v := undef) rfl (by kernel_rfl) (by kernel_rfl) (by kernel_rfl) (fun _ _ _ h => h) (Or.inr ⟨by rfl, rfl⟩) (by assumption) ?_)
          | (refine wpAnyH_take (i := 7) (v := ?_) rfl (by kernel_rfl) (by kernel_rfl) (by kernel_rfl) (fun _ _ _ h => h) (Or.inl ⟨by rfl, ?_⟩) (by assumption) ?_
             rotate_left
             (intro w hSw
              (try dsimp only at hSw)
              (go_simp <;> with_reducible rfl)))
        try simp only [Act.put, List.getElem_toArray, List.getElem_cons_zero, List.getElem_cons_succ, List.setIfInBounds_toArray, List.set_cons_zero, List.set_cons_succ]
        refine wpAnyH_done (by kernel_rfl) ?_ _
        have GF : Hid (Chg (fun _ => False) w ((((w6.setCell ⟨R, 0, none⟩ (.slice xa y0.len xc)).setCell ⟨R, 1, none⟩ (.int .i64 y1)).setCell ⟨R, 2, none⟩ (.int .i64 y2)).setCell ⟨R, 3, none⟩ (.slice va y3.len vc))) := hide (((G6.out.none (S := fun x => x = R)).trans NS.out.2).mono (fun x hx e => by have := HO2.out; omega))
        have TVF := hide ((TVZ.out.chg NS.out.2 (fun x hx e => by have := (HX2.out x hx).2; have := HO2.out; omega)).up (Y := New X w ((((w6.setCell ⟨R, 0, none⟩ (.slice xa y0.len xc)).setCell ⟨R, 1, none⟩ (.int .i64 y1)).setCell ⟨R, 2, none⟩ (.int .i64 y2)).setCell ⟨R, 3, none⟩ (.slice va y3.len vc))) (fun x hx => by rcases hx with hx | hx; exact Or.inl hx; exact Or.inr ⟨by have := HO.out; omega, by have := S6.out; have := NS.out.2.size; omega⟩))
        have TZF := hide ((TZ.out.chg NS.out.2 (fun x hx e => by have := HO2.out; rcases hx with hx | hx; have := (HX2.out x hx).2; omega; have h1 : w2.heap.size ≤ x := hx.1; omega)).up (Y := New X w ((((w6.setCell ⟨R, 0, none⟩ (.slice xa y0.len xc)).setCell ⟨R, 1, none⟩ (.int .i64 y1)).setCell ⟨R, 2, none⟩ (.int .i64 y2)).setCell ⟨R, 3, none⟩ (.slice va y3.len vc))) (fun x hx => by
          have h1 := S6.out
          have h2 := NS.out.2.size
          rcases hx with hx | hx
          · rcases hx with hx | hx
            · exact Or.inl hx
            · exact Or.inr ⟨by have := HO.out; omega, by omega⟩
          · have h3 : w2.heap.size ≤ x := hx.1
            exact Or.inr ⟨by have := HO2.out; omega, by omega⟩))
        obtain ⟨za, zc, rfl, _⟩ := id TZ.out
        go_wp2_with fail
        generalize ((((w6.setCell ⟨R, 0, none⟩ (.slice xa y0.len xc)).setCell ⟨R, 1, none⟩ (.int .i64 y1)).setCell ⟨R, 2, none⟩ (.int .i64 y2)).setCell ⟨R, 3, none⟩ (.slice va y3.len vc)) = wF at *
        have r0 := blk_cell NS.out.1 0
        have r1 := blk_cell NS.out.1 1
        have r2 := blk_cell NS.out.1 2
        have r3 := blk_cell NS.out.1 3
        refine bodyPost_ret (v := .tuple #[.agg #[.slice xa y0.len xc, .int .i64 y1, .int .i64 y2, .slice va y3.len vc], .slice za (b.app yl).len zc, .bool true]) (by simp [results, Tryd.results13, go_sem, r0, r1, r2, r3]) rfl ?_
        exact ⟨⟨_, _, by rw [ER.out]; rfl, by rw [ER.out]; exact TVF.out, by rw [ER.out]; exact TZF.out⟩, GF.out⟩
end Go.Proofs.YtnpcapdlgcaniaaDoor
