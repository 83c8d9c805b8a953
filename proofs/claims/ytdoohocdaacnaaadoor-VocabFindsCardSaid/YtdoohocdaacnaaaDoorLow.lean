/- The document's low, Right and Same of types. -/
import Derived.Test.YtdoohocdaacnaaaDoorFew
import Derived.Test.YtdoohocdaacnaaaDoorRight
namespace Go.Proofs.YtdoohocdaacnaaaDoor
open Go.RowKit
set_option linter.unusedVariables false
set_option linter.unusedSimpArgs false

def lowB (bases b : Int) : Bool := decide (0 ≤ b) && decide (b < bases)
def lowF (bases : Int) : Fs → Bool
  | .nil => true
  | .cons k b r => (lowB bases b && lowF bases k) && lowF bases r

set_option maxRecDepth 100000 in
set_option maxHeartbeats 4000000 in
theorem low_step (bases : Int) (N : Nat) (hN : N ≤ 1000000) (ih : ∀ (f : Fs), f.size < N → ∀ (v : Value) (b : Int) (X : Nat → Prop) (w : World), (∀ x, X x → x < w.heap.size) → Ts w X v f →
    Calls Tryd.prog 50 #[.agg #[v, .int .i64 b], .int .i64 bases] w fun e w' => e = .returned (.bool (lowB bases b && lowF bases f)) ∧ Chg (fun _ => False) w w')
    (f : Fs) (hf : f.size ≤ N) (v : Value) (b : Int) (X : Nat → Prop) (w : World) (hB : ∀ x, X x → x < w.heap.size) (hv : Ts w X v f) :
    Calls Tryd.prog 50 #[.agg #[v, .int .i64 b], .int .i64 bases] w fun e w' => e = .returned (.bool (lowB bases b && lowF bases f)) ∧ Chg (fun _ => False) w w' := by
  have IH := hide ih
  obtain ⟨a, cap, rfl, hx⟩ := id hv
  have HV := hide hv
  have HB := hide hB
  have HF := hide hf
  have htl := Fs.toL_len f
  have hls := Fs.len_size f
  have hln : f.len ≤ 1000000 := by omega
  have G1 := hide (al w (.cells #[.slice a f.len cap, .int .i64 b] 63))
  have BX := blk_new w (.cells #[.slice a f.len cap, .int .i64 b] 63)
  have y0 := blk_cell BX 0
  have y1 := blk_cell BX 1
  simp only [List.getElem?_toArray, List.getElem?_cons_zero, List.getElem?_cons_succ] at y0 y1
  have HBX := hide BX
  clear hx hv ih hB hf BX
  go_enter Tryd.func50, Tryd.ntmps50
  by_cases hb0 : b < 0
  · have hr : lowB bases b = false := by simp [lowB]; omega
    go_wp2_with fail
    go_ret
    exact ⟨by first | rfl | (rw [hr]; rfl), G1.out⟩
  · by_cases hb1 : bases ≤ b
    · have hr : lowB bases b = false := by simp [lowB]; omega
      go_wp2_with fail
      go_ret
      exact ⟨by first | rfl | (rw [hr]; rfl), G1.out⟩
    · have HR : Hid (lowB bases b = true) := hide (by simp [lowB]; omega)
      go_wp2_with fail
      obtain ⟨P, hP⟩ : ∃ P, w.heap.size = P := ⟨_, rfl⟩
      have HP := hide hP
      rw [hP] at HBX y0 y1 ⊢
      clear hP y0 y1
      generalize w.alloc (.cells #[.slice a f.len cap, .int .i64 b] 63) = w1 at *
      go_loopw [5] (fun iv wr => ∃ (i : Nat), i ≤ f.len ∧ iv = .int .i64 i ∧ Hid (wr.heap[P]? = some (.cells #[.slice a f.len cap, .int .i64 b] 63)) ∧ Hid (Chg (fun _ => False) w wr) ∧ Hid (lowF bases (f.from i) = lowF bases f)) (fun iv _ => f.len - (intOf iv).toNat)
      case atStart => exact ⟨0, Nat.zero_le _, rfl, HBX, G1, hide (by rw [Fs.from_zero])⟩
      case round =>
        clear HBX
        obtain ⟨i, hi, rfl, hT, hC, HE⟩ := hrel
        have xP := blk_cell hT.out 0
        have fP := blk_free hT.out 0
        simp only [List.getElem?_toArray, List.getElem?_cons_zero, List.getElem?_cons_succ] at xP
        by_cases hlt : i < f.len
        · have i2 : (i : Int) < (f.len : Int) := by omega
          have hit : i < f.toL.length := by omega
          obtain ⟨la, lc, hlv, hl⟩ := HV.out
          rcases hl with h0 | ⟨g, off, rfl, hg, hl⟩
          · subst h0; exact absurd hlt (Nat.not_lt_zero _)
          injection hlv with e1 e2 e3
          subst e1
          subst e3
          obtain ⟨⟨vi, c0, ti⟩, c1⟩ := lies_get hl i hit
          obtain ⟨ka, kc, rfl, _⟩ := id ti
          have hks := Fs.kid_size f i hit
          have d0 := hC.out.cell (fun h => h) c0
          have d1 := hC.out.cell (fun h => h) c1
          have ti5 := hide (ti.chg hC.out (fun _ _ h => h))
          have KI := hide (IH.out (f.toL[i]).1 (by have := HF.out; omega) (.slice ka (f.toL[i]).1.len kc) (f.toL[i]).2 X)
          have BW := hide (fun x (hx : X x) => Nat.lt_of_lt_of_le (HB.out x hx) hC.out.size)
          have i1 : (0 : Int) ≤ (i : Int) := by omega
          have NX : Hid (((lowB bases (f.toL[i]).2 && lowF bases (f.toL[i]).1) && lowF bases (f.from (i + 1))) = lowF bases f) := hide (by rw [← HE.out, Fs.from_at f i hit]; rfl)
          clear hl c0 c1 ti hks HE
          obtain ⟨q, hq⟩ : ∃ q, (lowB bases (f.toL[i]).2 && lowF bases (f.toL[i]).1) = q := ⟨_, rfl⟩
          rw [hq] at KI NX
          clear hq
          obtain ⟨kk, hkk⟩ : ∃ kk, kk = (f.toL[i]).1 := ⟨_, rfl⟩
          rw [← hkk] at d0 ti5 KI
          generalize (f.toL[i]).2 = kb at *
          clear hkk
          go_wp2_with fail
          refine (KI.out wr BW.out ti5.out).mono ?_
          rintro e w6 ⟨rfl, g6⟩
          have GT := hide (g6.blk (fun h => h) hT.out)
          have GC := hide (hC.out.trans g6)
          clear g6 hT hC ti5 KI BW
          cases q with
          | true =>
            have FI : Hid (lowF bases (f.from (i + 1)) = lowF bases f) := hide (by have := NX.out; rw [Bool.true_and] at this; exact this)
            go_wp2_with fail
            go_roundw
            case rel => exact ⟨i + 1, by omega, by go_num, GT, GC, FI⟩
            case measure => simp [intOf]; omega
          | false =>
            have FI : lowF bases f = false := by have := NX.out; rw [Bool.false_and] at this; exact this.symm
            go_wp2_with fail
            go_ret
            exact ⟨by first | (rw [FI, Bool.and_false]; done) | rfl | (simp [FI]; done), GC.out⟩
        · have i2 : ¬ (i : Int) < (f.len : Int) := by omega
          have hif : i = f.len := by omega
          have hr : lowF bases f = true := by
            rw [← HE.out, hif, Fs.from_end]
            rfl
          go_wp2_with fail
          go_ret
          exact ⟨by first | (rw [hr, HR.out]; rfl) | (rw [HR.out]; rfl) | rfl, hC.out⟩
theorem low_all (bases : Int) (N : Nat) (hN : N ≤ 1000000) : ∀ (f : Fs), f.size ≤ N → ∀ (v : Value) (b : Int) (X : Nat → Prop) (w : World), (∀ x, X x → x < w.heap.size) → Ts w X v f →
    Calls Tryd.prog 50 #[.agg #[v, .int .i64 b], .int .i64 bases] w fun e w' => e = .returned (.bool (lowB bases b && lowF bases f)) ∧ Chg (fun _ => False) w w' := by
  induction N with
  | zero => exact fun f hf => low_step bases 0 hN (fun g hg => absurd hg (Nat.not_lt_zero _)) f hf
  | succ n ih => exact fun f hf => low_step bases (n + 1) hN (fun g hg => ih (by omega) g (by omega)) f hf

theorem nodes_all (bases : Int) (f : Fs) : ∀ d, (nodes (d + 1) f).all (goodN bases) = true ↔ (f = .nil ∨ f.high + d ≤ 60) ∧ lowF bases f = true := by
  induction f with
  | nil => intro d; simp [nodes, lowF]
  | cons k b r ihk ihr =>
    intro d
    have h1 := ihk (d + 1)
    have h2 := ihr d
    have e1 : nodes (d + 1) (.cons k b r) = (d + 1, b) :: (nodes (d + 1 + 1) k ++ nodes (d + 1) r) := rfl
    rw [e1, List.all_cons, List.all_append, Bool.and_eq_true, Bool.and_eq_true, h1, h2]
    have hk : k = .nil → k.high = 0 := fun h => by rw [h]; rfl
    have hr : r = .nil → r.high = 0 := fun h => by rw [h]; rfl
    simp only [goodN, lowF, lowB, Fs.high, Bool.and_eq_true, decide_eq_true_eq]
    constructor
    · rintro ⟨⟨a1, a2, a3⟩, ⟨a4, a5⟩, a6, a7⟩
      refine ⟨Or.inr ?_, ⟨⟨a2, a3⟩, a5⟩, a7⟩
      have h3 : k.high + 1 + d ≤ 60 := by rcases a4 with h | h; rw [hk h]; omega; omega
      have h4 : r.high + d ≤ 60 := by rcases a6 with h | h; rw [hr h]; omega; omega
      omega
    · rintro ⟨a1, ⟨⟨a2, a3⟩, a5⟩, a7⟩
      have h3 : max (k.high + 1) r.high + d ≤ 60 := by rcases a1 with h | h; cases h; exact h
      exact ⟨⟨by omega, a2, a3⟩, ⟨Or.inr (by omega), a5⟩, Or.inr (by omega), a7⟩
theorem good_right (bases b : Int) (f : Fs) : (decide (fewT 1000 60 f ≤ 1000) && (lowB bases b && lowF bases f)) = goodL bases ((1, b) :: nodes 2 f) := by
  have h1 := nodes_all bases f 1
  have h2 := fewT_iff 1000 59 f
  have h3 : f = .nil → f.high = 0 := fun h => by rw [h]; rfl
  rw [Bool.eq_iff_iff]
  simp only [goodL, List.length_cons, nodes_len, List.all_cons, Bool.and_eq_true, decide_eq_true_eq, h1, goodN, lowB]
  constructor
  · rintro ⟨a1, ⟨a2, a3⟩, a4⟩
    have := h2.1 a1
    exact ⟨by omega, ⟨by omega, a2, a3⟩, Or.inr (by omega), a4⟩
  · rintro ⟨a1, ⟨a2, a3, a4⟩, a5, a6⟩
    refine ⟨h2.2 ⟨by omega, ?_⟩, ⟨a3, a4⟩, a6⟩
    rcases a5 with h | h
    · rw [h3 h]; omega
    · omega

set_option maxRecDepth 100000 in
theorem refRight_any (f : Fs) (hf : f.size ≤ 1000000) (v : Value) (b bases : Int) (X : Nat → Prop) (w : World) (hX : ∀ x, X x → x < w.heap.size) (hv : Ts w X v f) :
    Calls Tryd.prog 37 #[.agg #[v, .int .i64 b], .int .i64 bases] w fun e w' => e = .returned (.bool (goodL bases ((1, b) :: nodes 2 f))) ∧ Chg (fun _ => False) w w' := by
  have G1 := hide (al w (.cells #[v, .int .i64 b] 63))
  have BX := blk_new w (.cells #[v, .int .i64 b] 63)
  have y0 := blk_cell BX 0
  have y1 := blk_cell BX 1
  simp only [List.getElem?_toArray, List.getElem?_cons_zero, List.getElem?_cons_succ] at y0 y1
  obtain ⟨a, cap, rfl, hx⟩ := id hv
  have HV1 := hide (hv.chg G1.out (fun _ _ h => h))
  have HX1 := hide (fun x (hx : X x) => Nat.lt_of_lt_of_le (hX x hx) G1.out.size)
  have fc := hide (Few_any 1000 60 (by decide) (by decide) (by decide) f _ b X _ HX1.out HV1.out)
  have GR := hide (good_right bases b f)
  have HF := hide hf
  clear hv hx BX hf
  obtain ⟨q, hq⟩ : ∃ q, decide (fewT 1000 60 f ≤ 1000) = q := ⟨_, rfl⟩
  rw [hq] at fc GR
  rw [← GR.out]
  clear hq GR
  go_enter Tryd.func37, Tryd.ntmps37
  go_wp2_with fail
  generalize w.alloc (.cells #[.slice a f.len cap, .int .i64 b] 63) = w1 at *
  refine fc.out.mono ?_
  rintro e w6 ⟨rfl, g6⟩
  have GG := hide (G1.out.trans g6)
  have z0 := g6.cell (fun h => h) y0
  have z1 := g6.cell (fun h => h) y1
  have lc := hide (low_all bases 1000000 (by decide) f HF.out _ b X w6 (fun x hx => Nat.lt_of_lt_of_le (HX1.out x hx) g6.size) (HV1.out.chg g6 (fun _ _ h => h)))
  clear g6
  cases q with
  | true =>
    go_wp2_with fail
    refine lc.out.mono ?_
    rintro e w7 ⟨rfl, g7⟩
    have GG7 := hide (GG.out.trans g7)
    clear g7
    go_wp2_with fail
    go_ret
    exact ⟨by simp, GG7.out⟩
  | false =>
    go_wp2_with fail
    go_ret
    exact ⟨rfl, GG.out⟩
end Go.Proofs.YtdoohocdaacnaaaDoor
