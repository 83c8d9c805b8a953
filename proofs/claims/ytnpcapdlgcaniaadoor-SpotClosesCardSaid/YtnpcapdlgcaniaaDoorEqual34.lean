/- kind.Equal, and slices.EqualFunc with it: exact. -/
import Derived.Test.YtnpcapdlgcaniaaDoorFs
import Derived.Deep.CutBlock
namespace Go.Proofs.YtnpcapdlgcaniaaDoor
open Go.RowKit
set_option linter.unusedVariables false
set_option linter.unusedSimpArgs false

/-- are two rows the same? -/
def Fs.same : (a b : Fs) → Decidable (a = b)
  | .nil, .nil => isTrue rfl
  | .nil, .cons _ _ _ => isFalse (fun h => by cases h)
  | .cons _ _ _, .nil => isFalse (fun h => by cases h)
  | .cons k b r, .cons k' b' r' =>
    match Fs.same k k' with
    | isFalse h => isFalse (fun e => h (by cases e; rfl))
    | isTrue h1 =>
      match Int.instDecidableEq b b' with
      | isFalse h => isFalse (fun e => h (by cases e; rfl))
      | isTrue h2 =>
        match Fs.same r r' with
        | isFalse h => isFalse (fun e => h (by cases e; rfl))
        | isTrue h3 => isTrue (by rw [h1, h2, h3])
instance : DecidableEq Fs := Fs.same
def EqC (f g : Fs) : Prop := ∀ (b b' : Int) (v v' : Value) (X : Nat → Prop) (w : World), (∀ x, X x → x < w.heap.size) → Ts w X v f → Ts w X v' g →
    Calls Tryd.prog 34 #[.agg #[v, .int .i64 b], .agg #[v', .int .i64 b']] w fun e w' => e = .returned (.bool ((b == b') && decide (f = g))) ∧ Chg (fun _ => False) w w'
theorem Fs.eq_of (f g : Fs) (hl : f.len = g.len) (h : ∀ j (h1 : j < f.toL.length) (h2 : j < g.toL.length), f.toL[j] = g.toL[j]) : f = g := by
  have : f.toL = g.toL := List.ext_getElem (by rw [Fs.toL_len, Fs.toL_len, hl]) h
  rw [← Fs.ofL_toL f, this, Fs.ofL_toL]
/-- what the loop keeps -/
def EqInv (w wr : World) (f g : Fs) (i : Nat) : Prop := Hid (Chg (fun _ => False) w wr) ∧ Hid (∀ j (h1 : j < f.toL.length) (h2 : j < g.toL.length), j < i → f.toL[j] = g.toL[j])

set_option maxRecDepth 100000 in
set_option maxHeartbeats 32000000 in
/-- the rows' types one by one -/
theorem eqf_step (n : Nat) (ih : ∀ (f : Fs), f.size < n → ∀ (g : Fs), g.size ≤ 1000000 → EqC f g)
    (f : Fs) (hf : f.size ≤ n) (hfl : f.len ≤ 1000000) (g : Fs) (hgs : ∀ i (h : i < g.toL.length), (g.toL[i]).1.size ≤ 1000000) (hgl : g.len ≤ 1000000) (v v' : Value) (X : Nat → Prop) (w : World) (hB : ∀ x, X x → x < w.heap.size) (hv : Ts w X v f) (hv' : Ts w X v' g) :
    Calls Tryd.prog 58 #[v, v', .func (.func 34) #[] #[]] w fun e w' => e = .returned (.bool (decide (f = g))) ∧ Chg (fun _ => False) w w' := by
  have IH := hide ih
  have SG := hide hgs
  obtain ⟨RR, hRR⟩ : ∃ RR, decide (f = g) = RR := ⟨_, rfl⟩
  rw [hRR]
  have HR := hide hRR
  obtain ⟨av, cap, rfl, hx⟩ := id hv
  obtain ⟨av', cap', rfl, hx'⟩ := id hv'
  have HV := hide hv
  have HV' := hide hv'
  have HB := hide hB
  have htl := Fs.toL_len f
  have htl' := Fs.toL_len g
  have HF := hide hf
  clear hx hx' hv hv' ih hB hf hgs hRR
  go_enter Tryd.func58, Tryd.ntmps58
  by_cases e4 : f.len = g.len
  · have e4' : ((f.len : Int) != (g.len : Int)) = false := by rw [e4]; simp
    have E4 := hide e4
    clear e4
    go_upto_block 0 with fail
    clear e4'
    go_wp2_with fail
    go_loopw [17] (fun iv wr => ∃ (i : Nat), i ≤ f.len ∧ iv = .int .i64 i ∧ Hid (EqInv w wr f g i)) (fun iv _ => f.len - (intOf iv).toNat)
    case atStart => exact ⟨0, Nat.zero_le _, rfl, hide ⟨hide (Chg.refl _ _), hide (fun j _ _ h => absurd h (Nat.not_lt_zero _))⟩⟩
    case round =>
      obtain ⟨i, hi, rfl, hIN⟩ := hrel
      obtain ⟨hC, hM⟩ := hIN.out
      clear hIN
      by_cases hlt : i < f.len
      · have hit : i < f.toL.length := by omega
        have hit' : i < g.toL.length := by have := E4.out; omega
        obtain ⟨la, lc, hlv, hl⟩ := HV.out
        rcases hl with h0 | ⟨bb, off, rfl, hg, hl⟩
        · subst h0; exact absurd hlt (Nat.not_lt_zero _)
        injection hlv with e1 e2 e3
        subst e1 e3
        obtain ⟨la', lc', hlv', hl'⟩ := HV'.out
        rcases hl' with h0 | ⟨bb', off', rfl, hg', hl'⟩
        · subst h0; have := E4.out; simp only [Fs.len] at this; omega
        injection hlv' with e1 e2 e3
        subst e1 e3
        obtain ⟨⟨ka0, c0, ti⟩, c1⟩ := lies_get hl i hit
        obtain ⟨⟨ma0, c0', ti'⟩, c1'⟩ := lies_get hl' i hit'
        obtain ⟨ka, kc, rfl, _⟩ := id ti
        obtain ⟨ma, mc, rfl, _⟩ := id ti'
        have hks := Fs.kid_size f i hit
        have WC := hC.out
        have i1 : (0 : Int) ≤ (i : Int) := by omega
        have i2 : (i : Int) < (f.len : Int) := by omega
        have i3 : (i : Int) < (g.len : Int) := by have := E4.out; omega
        have TI := hide (ti.chg WC (fun _ _ h => h))
        have TI' := hide (ti'.chg WC (fun _ _ h => h))
        have d0 := WC.cell (fun h => h) c0
        have d1 := WC.cell (fun h => h) c1
        have d0' := WC.cell (fun h => h) c0'
        have d1' := WC.cell (fun h => h) c1'
        have BW := fun x (hx : X x) => Nat.lt_of_lt_of_le (HB.out x hx) WC.size
        have KI := hide (fun w' (gg : Chg (fun _ => False) wr w') => IH.out (f.toL[i]).1 (by have := HF.out; omega) (g.toL[i]).1 (SG.out i hit') (f.toL[i]).2 (g.toL[i]).2 _ _ X w' (fun x hx => Nat.lt_of_lt_of_le (BW x hx) gg.size) (TI.out.chg gg (fun _ _ h => h)) (TI'.out.chg gg (fun _ _ h => h)))
        have HL : Hid ((((f.toL[i]).2 == (g.toL[i]).2) && decide ((f.toL[i]).1 = (g.toL[i]).1)) = decide (f.toL[i] = g.toL[i])) := hide (by
          rw [Bool.eq_iff_iff]
          simp only [Bool.and_eq_true, beq_iff_eq, decide_eq_true_eq, Prod.ext_iff]
          exact And.comm)
        rw [HL.out] at KI
        have HG := hide (fun (h : decide (f.toL[i] = g.toL[i]) = false) => (show false = RR by
          cases hR : RR with
          | false => rfl
          | true =>
            have := of_decide_eq_true (HR.out.trans hR)
            subst this
            exact absurd rfl (of_decide_eq_false h)))
        have HT := hide (fun (h : decide (f.toL[i] = g.toL[i]) = true) => show (∀ j (h1 : j < f.toL.length) (h2 : j < g.toL.length), j < i + 1 → f.toL[j] = g.toL[j]) from fun j h1 h2 h3 => by
          by_cases e : j < i
          · exact hM.out j h1 h2 e
          · have : j = i := by omega
            subst this
            exact of_decide_eq_true h)
        clear hl hl' c0 c1 c0' c1' ti ti' hks WC BW HL hM TI TI'
        obtain ⟨L, hL⟩ : ∃ L, decide (f.toL[i] = g.toL[i]) = L := ⟨_, rfl⟩
        rw [hL] at KI HG HT
        clear hL
        generalize (f.toL[i]).1 = k0 at *
        generalize (f.toL[i]).2 = k1 at *
        generalize (g.toL[i]).1 = m0 at *
        generalize (g.toL[i]).2 = m1 at *
        have GA := al wr (.cells #[.slice ka k0.len kc, .int .i64 k1] 73)
        have NB := blk_new wr (.cells #[.slice ka k0.len kc, .int .i64 k1] 73)
        have GB := al (wr.alloc (.cells #[.slice ka k0.len kc, .int .i64 k1] 73)) (.cells #[.slice ma m0.len mc, .int .i64 m1] 73)
        have MB := blk_new (wr.alloc (.cells #[.slice ka k0.len kc, .int .i64 k1] 73)) (.cells #[.slice ma m0.len mc, .int .i64 m1] 73)
        have NB2 := GB.blk (fun h => h) NB
        rw [al_sz] at MB
        have x0 := blk_cell NB2 0
        have x1 := blk_cell NB2 1
        have y0 := blk_cell MB 0
        have y1 := blk_cell MB 1
        have GG := GA.trans GB
        have z0 := GA.cell (fun h => h) d0'
        have z1 := GA.cell (fun h => h) d1'
        have KJ := hide (KI.out _ GG)
        have CA := hide (hC.out.trans GG)
        clear GA GB NB MB NB2 GG KI
        go_wp2_with fail
        refine KJ.out.mono ?_
        rintro e w6 ⟨rfl, g6⟩
        have C6 := hide (CA.out.trans g6)
        clear g6 KJ x0 x1 y0 y1 z0 z1
        cases L
        · have HG2 := hide (HG.out rfl)
          clear HT HG
          go_wp2_with fail
          go_ret
          exact ⟨by have h := HG2.out; subst h; rfl, C6.out⟩
        · have F9 : Hid (EqInv w w6 f g (i + 1)) := hide ⟨C6, hide (HT.out rfl)⟩
          clear HG HT
          go_wp2_with fail
          go_roundw
          case rel => exact ⟨i + 1, by omega, by go_num, F9⟩
          case measure => simp [intOf]; omega
      · have hif : i = f.len := by omega
        have HX := hide (show RR = true from HR.out.symm.trans (decide_eq_true (Fs.eq_of f g E4.out (fun j h1 h2 => hM.out j h1 h2 (by omega)))))
        have GX := hide hC.out
        clear hM HV HV' IH
        have i2 : decide (i < f.len) = false := by simp [hlt]
        subst hif
        go_wp2_with fail
        go_ret
        exact ⟨by have h := HX.out; subst h; rfl, GX.out⟩
  · have e4' : ((f.len : Int) != (g.len : Int)) = true := by simp; omega
    have HR := hide (show false = RR by
      cases hR : RR with
      | false => rfl
      | true => exact absurd (by have := of_decide_eq_true (HR.out.trans hR); rw [this]) e4)
    clear HV HV' IH
    go_wp2_with fail
    go_ret
    exact ⟨by have h := HR.out; subst h; rfl, Chg.refl _ _⟩

set_option maxRecDepth 100000 in
set_option maxHeartbeats 32000000 in
theorem equal_step (f g : Fs) (EF : ∀ (v v' : Value) (X : Nat → Prop) (w : World), (∀ x, X x → x < w.heap.size) → Ts w X v f → Ts w X v' g →
    Calls Tryd.prog 58 #[v, v', .func (.func 34) #[] #[]] w fun e w' => e = .returned (.bool (decide (f = g))) ∧ Chg (fun _ => False) w w') : EqC f g := by
  intro b b' v v' X w hB hv hv'
  obtain ⟨D, hD⟩ : ∃ D, decide (f = g) = D := ⟨_, rfl⟩
  obtain ⟨av, cap, rfl, hx⟩ := id hv
  obtain ⟨av', cap', rfl, hx'⟩ := id hv'
  have G1 := al w (.cells #[.slice av f.len cap, .int .i64 b] 73)
  have G2 := al (w.alloc (.cells #[.slice av f.len cap, .int .i64 b] 73)) (.cells #[.slice av' g.len cap', .int .i64 b'] 73)
  have GG := hide (G1.trans G2)
  have CK := hide (EF _ _ X ((w.alloc (.cells #[.slice av f.len cap, .int .i64 b] 73)).alloc (.cells #[.slice av' g.len cap', .int .i64 b'] 73)) (fun x h => Nat.lt_of_lt_of_le (hB x h) GG.out.size) (hv.chg GG.out (fun _ _ h => h)) (hv'.chg GG.out (fun _ _ h => h)))
  rw [hD] at CK ⊢
  clear hx hx' hv hv' hB G1 G2 hD EF
  cases e1 : (b == b')
  · clear CK
    go_enter Tryd.func34, Tryd.ntmps34
    go_wp2_with fail
    go_ret
    exact ⟨rfl, GG.out⟩
  · go_enter Tryd.func34, Tryd.ntmps34
    go_wp2_with fail
    refine CK.out.mono ?_
    rintro e w6 ⟨rfl, g6⟩
    have C6 := hide (GG.out.trans g6)
    clear g6 CK GG
    go_wp2_with fail
    go_ret
    exact ⟨rfl, C6.out⟩
theorem equal_all (n : Nat) (hn : n ≤ 1000000) : ∀ (f : Fs), f.size ≤ n → ∀ (g : Fs), g.size ≤ 1000000 → EqC f g := by
  induction n with
  | zero =>
    intro f hf g hg
    exact equal_step f g (fun v v' X w hB hv hv' => eqf_step 0 (fun _ h => absurd h (Nat.not_lt_zero _)) f hf (by have := Fs.len_size f; omega) g (fun i h => by have := Fs.kid_size g i h; omega) (by have := Fs.len_size g; omega) v v' X w hB hv hv')
  | succ n ih =>
    intro f hf g hg
    exact equal_step f g (fun v v' X w hB hv hv' => eqf_step (n + 1) (fun f' h' g' hg' => ih (by omega) f' (by omega) g' hg') f hf (by have := Fs.len_size f; omega) g (fun i h => by have := Fs.kid_size g i h; omega) (by have := Fs.len_size g; omega) v v' X w hB hv hv')
/-- kind.Equal says whether the types are the same -/
theorem equal_any (f g : Fs) (hf : f.size ≤ 1000000) (hg : g.size ≤ 1000000) : EqC f g := equal_all 1000000 (Nat.le_refl _) f hf g hg
/-- so slices.EqualFunc with it -/
theorem eqf_any (f g : Fs) (hf : f.size ≤ 1000000) (hg : g.size ≤ 1000000) (v v' : Value) (X : Nat → Prop) (w : World) (hB : ∀ x, X x → x < w.heap.size) (hv : Ts w X v f) (hv' : Ts w X v' g) :
    Calls Tryd.prog 58 #[v, v', .func (.func 34) #[] #[]] w fun e w' => e = .returned (.bool (decide (f = g))) ∧ Chg (fun _ => False) w w' :=
  eqf_step f.size (fun f' h' g' hg' => equal_any f' g' (by omega) hg') f (Nat.le_refl _) (by have := Fs.len_size f; omega) g (fun i h => by have := Fs.kid_size g i h; omega) (by have := Fs.len_size g; omega) v v' X w hB hv hv'
end Go.Proofs.YtnpcapdlgcaniaaDoor
