/- The document's few: is a type small? -/
import Derived.Test.YtnpcapdlgcaniaaDoorTo
namespace Go.Proofs.YtnpcapdlgcaniaaDoor
open Go.RowKit
set_option linter.unusedVariables false
set_option linter.unusedSimpArgs false

/-- the count of a row's types, so many levels below being allowed -/
def fewL (most : Nat) : Nat → Nat → Fs → Nat
  | _, n, .nil => n
  | 0, n, .cons _ _ r => if n ≤ most then fewL most 0 (n + (most + 1)) r else n
  | d + 1, n, .cons k _ r => if n ≤ most then fewL most (d + 1) (n + fewL most d 1 k) r else n
def fewT (most : Nat) (d : Nat) (f : Fs) : Nat := match d with
  | 0 => most + 1
  | e + 1 => fewL most e 1 f
theorem fewL_cons (most d n : Nat) (k : Fs) (b : Int) (r : Fs) : fewL most d n (.cons k b r) = if n ≤ most then fewL most d (n + fewT most d k) r else n := by
  cases d <;> rfl
theorem fewL_stop {most d n : Nat} (h : ¬ n ≤ most) (f : Fs) : fewL most d n f = n := by
  cases f with
  | nil => cases d <;> rfl
  | cons k b r => rw [fewL_cons, if_neg h]
theorem fewL_ge (most d : Nat) (f : Fs) : ∀ n, n ≤ fewL most d n f := by
  induction f generalizing d with
  | nil => intro n; cases d <;> exact Nat.le_refl _
  | cons k b r _ ih => intro n; rw [fewL_cons]; split; exact Nat.le_trans (Nat.le_add_right _ _) (ih d _); exact Nat.le_refl _
def Fs.high : Fs → Nat
  | .nil => 0
  | .cons k _ r => max (k.high + 1) r.high
theorem fewT_pos {most : Nat} (d : Nat) (f : Fs) : 1 ≤ fewT most d f := by
  cases d with
  | zero => exact Nat.succ_le_succ (Nat.zero_le _)
  | succ e => exact fewL_ge most e f 1
theorem fewL_le (most : Nat) (f : Fs) : ∀ d n, fewL most d n f ≤ max n (most + (d + 1) * (most + 1)) := by
  induction f with
  | nil => intro d n; cases d <;> exact Nat.le_max_left _ _
  | cons k b r ihk ihr =>
    intro d n
    rw [fewL_cons]
    split
    · have hk : fewT most d k ≤ (d + 1) * (most + 1) := by
        cases d with
        | zero => simp [fewT]
        | succ e =>
          have h1 := ihk e 1
          have h2 : (e + 1 + 1) * (most + 1) = (e + 1) * (most + 1) + (most + 1) := Nat.succ_mul _ _
          have h3 : 1 ≤ (e + 1 + 1) * (most + 1) := Nat.mul_pos (by omega) (by omega)
          show fewL most e 1 k ≤ _
          omega
      have := ihr d (n + fewT most d k)
      omega
    · omega
theorem fewT_le (most d : Nat) (f : Fs) : fewT most d f ≤ (d + 1) * (most + 1) := by
  cases d with
  | zero => simp [fewT]
  | succ e =>
    have h1 := fewL_le most f e 1
    have h2 : (e + 1 + 1) * (most + 1) = (e + 1) * (most + 1) + (most + 1) := Nat.succ_mul _ _
    have h3 : 1 ≤ (e + 1 + 1) * (most + 1) := Nat.mul_pos (by omega) (by omega)
    show fewL most e 1 f ≤ _
    omega
theorem fewL_iff (most : Nat) (f : Fs) : ∀ d n, (fewL most d n f ≤ most ↔ n + f.size ≤ most ∧ (f.high ≤ d)) ∧ (fewL most d n f ≤ most → fewL most d n f = n + f.size) := by
  induction f with
  | nil => intro d n; cases d <;> simp [fewL, Fs.size, Fs.high]
  | cons k b r ihk ihr =>
    intro d n
    rw [fewL_cons]
    simp only [Fs.size, Fs.high]
    split
    · rename_i hn
      have h1 := ihr d (n + fewT most d k)
      cases d with
      | zero =>
        have h2 := fewL_ge most 0 r (n + fewT most 0 k)
        have h3 : fewT most 0 k = most + 1 := rfl
        refine ⟨⟨fun h => ?_, fun h => ?_⟩, fun h => ?_⟩ <;> omega
      | succ e =>
        have h2 : fewT most (e + 1) k = fewL most e 1 k := rfl
        have h3 := ihk e 1
        have h4 := fewL_ge most (e + 1) r (n + fewT most (e + 1) k)
        rw [h2] at h1 h4 ⊢
        refine ⟨⟨fun h => ?_, fun h => ?_⟩, fun h => ?_⟩
        · have := h1.1.1 h
          have h5 : fewL most e 1 k ≤ most := by omega
          have := h3.1.1 h5
          have := h3.2 h5
          omega
        · have h5 : fewL most e 1 k ≤ most := h3.1.2 (by omega)
          have := h3.2 h5
          exact h1.1.2 (by omega)
        · have := h1.1.1 h
          have h5 : fewL most e 1 k ≤ most := by omega
          have := h3.2 h5
          have := h1.2 h
          omega
    · refine ⟨⟨fun h => ?_, fun h => ?_⟩, fun h => ?_⟩ <;> omega
theorem fewT_iff (most d : Nat) (f : Fs) : fewT most (d + 1) f ≤ most ↔ 1 + f.size ≤ most ∧ f.high ≤ d := (fewL_iff most f d 1).1

def Fs.from (f : Fs) (i : Nat) : Fs := Fs.ofL (f.toL.drop i)
theorem Fs.from_zero (f : Fs) : f.from 0 = f := Fs.ofL_toL f
theorem Fs.from_at (f : Fs) (i : Nat) (h : i < f.toL.length) : f.from i = .cons (f.toL[i]).1 (f.toL[i]).2 (f.from (i + 1)) := by
  unfold Fs.from
  rw [List.drop_eq_getElem_cons h]
  rfl
theorem Fs.from_end (f : Fs) : f.from f.len = .nil := by
  unfold Fs.from
  rw [← Fs.toL_len, List.drop_length]
  rfl
/-- what few's loop keeps -/
def FewInv (most d : Nat) (w wr : World) (P : Nat) (v : Value) (b : Int) (f : Fs) (i n : Nat) : Prop :=
  Hid (wr.heap[P]? = some (.cells #[v, .int .i64 b] 92)) ∧ Hid (Chg (fun _ => False) w wr) ∧ fewL most d n (f.from i) = fewL most d 1 f

set_option maxRecDepth 100000 in
set_option maxHeartbeats 4000000 in
theorem few_step (most : Nat) (hm : 1 ≤ most) (hm2 : most ≤ 1000) (N : Nat) (ih : ∀ (f : Fs), f.size < N → ∀ (d : Nat), d ≤ 100 → ∀ (v : Value) (b : Int) (X : Nat → Prop) (w : World), (∀ x, X x → x < w.heap.size) → Ts w X v f →
    Calls Tryd.prog 75 #[.agg #[v, .int .i64 b], .int .i64 most, .int .i64 d] w fun e w' => e = .returned (.int .i64 (fewT most d f)) ∧ Chg (fun _ => False) w w')
    (f : Fs) (hf : f.size ≤ N) (d : Nat) (hd : d ≤ 100) (v : Value) (b : Int) (X : Nat → Prop) (w : World) (hB : ∀ x, X x → x < w.heap.size) (hv : Ts w X v f) :
    Calls Tryd.prog 75 #[.agg #[v, .int .i64 b], .int .i64 most, .int .i64 d] w fun e w' => e = .returned (.int .i64 (fewT most d f)) ∧ Chg (fun _ => False) w w' := by
  have IH := hide ih
  obtain ⟨a, cap, rfl, hx⟩ := id hv
  have HV := hide hv
  have HB := hide hB
  have HF := hide hf
  have htl := Fs.toL_len f
  have G1 := hide (al w (.cells #[.slice a f.len cap, .int .i64 b] 92))
  have BX := hide (blk_new w (.cells #[.slice a f.len cap, .int .i64 b] 92))
  clear hx hv ih hB hf
  go_enter Tryd.func75, Tryd.ntmps75
  cases d with
  | zero =>
    go_wp2_with fail
    go_ret
    exact ⟨by simp [fewT], G1.out⟩
  | succ d =>
    have z1 : ¬ ((d : Int) + 1 ≤ 0) := by omega
    have z2 : ((d + 1 : Nat) : Int) = (d : Int) + 1 := by omega
    rw [z2]
    go_wp2_with fail
    obtain ⟨P, hP⟩ : ∃ P, w.heap.size = P := ⟨_, rfl⟩
    have HP := hide hP
    rw [hP] at BX ⊢
    clear hP
    generalize w.alloc (.cells #[.slice a f.len cap, .int .i64 b] 92) = w1 at *
    have bnd : (d + 1) * (most + 1) ≤ 101 * 1001 := Nat.mul_le_mul (by omega) (by omega)
    go_loopw [7, 8] (fun nv iv wr => ∃ (i n : Nat), i ≤ f.len ∧ nv = .int .i64 n ∧ iv = .int .i64 i ∧ i + 1 ≤ n ∧ n ≤ 2 * (101 * 1001) ∧ Hid (FewInv most d w wr P (.slice a f.len cap) b f i n)) (fun _ iv _ => f.len - (intOf iv).toNat)
    case atStart => exact ⟨0, 1, Nat.zero_le _, rfl, rfl, Nat.le_refl _, by decide, BX, G1, by rw [Fs.from_zero]⟩
    case round =>
      clear BX
      obtain ⟨i, n, hi, rfl, rfl, hin, hnb, hIN⟩ := hrel
      obtain ⟨hT, hC, hE⟩ := hIN.out
      have HE := hide hE
      clear hIN hE
      have xP := blk_cell hT.out 0
      have fP := blk_free hT.out 0
      simp only [List.getElem?_toArray, List.getElem?_cons_zero, List.getElem?_cons_succ] at xP
      by_cases hlt : i < f.len
      · have i2 : (i : Int) < (f.len : Int) := by omega
        by_cases hle : n ≤ most
        · have i3 : (n : Int) ≤ (most : Int) := by omega
          have hit : i < f.toL.length := by omega
          obtain ⟨la, lc, hlv, hl⟩ := HV.out
          rcases hl with h0 | ⟨g, off, rfl, hg, hl⟩
          · subst h0; exact absurd hlt (Nat.not_lt_zero _)
          injection hlv with e1 e2 e3
          subst e1
          subst e3
          obtain ⟨⟨vi, c0, ti⟩, c1⟩ := lies_get hl i hit
          obtain ⟨ka, kc, rfl, _⟩ := id ti
          have hks := Fs.kid_size f i hit
          have d0 := hC.out.cell (fun h => h) c0
          have d1 := hC.out.cell (fun h => h) c1
          have ti5 := hide (ti.chg hC.out (fun _ _ h => h))
          have KI := hide (IH.out (f.toL[i]).1 (by have := HF.out; omega) d (by omega) (.slice ka (f.toL[i]).1.len kc) (f.toL[i]).2 X)
          have BW := hide (fun x (hx : X x) => Nat.lt_of_lt_of_le (HB.out x hx) hC.out.size)
          have i1 : (0 : Int) ≤ (i : Int) := by omega
          have NX : Hid (fewL most d (n + fewT most d (f.toL[i]).1) (f.from (i + 1)) = fewL most d 1 f) := hide (by rw [← HE.out, Fs.from_at f i hit, fewL_cons, if_pos hle])
          have FL : fewT most d (f.toL[i]).1 ≤ 101 * 1001 := Nat.le_trans (fewT_le _ _ _) bnd
          have FP := fewT_pos (most := most) d (f.toL[i]).1
          have z3 : ((d : Int) + 1 - 1) = (d : Int) := by omega
          clear hl c0 c1 ti hks HE
          generalize fewT most d (f.toL[i]).1 = q at *
          obtain ⟨kk, hkk⟩ : ∃ kk, kk = (f.toL[i]).1 := ⟨_, rfl⟩
          rw [← hkk] at d0 ti5 KI
          generalize (f.toL[i]).2 = kb at *
          clear hkk
          go_wp2_with fail
          refine (KI.out wr BW.out ti5.out).mono ?_
          rintro e w6 ⟨rfl, g6⟩
          have GT := hide (g6.blk (fun h => h) hT.out)
          have GC := hide (hC.out.trans g6)
          have FI : Hid (FewInv most d w w6 P (.slice (some ⟨g, off, none⟩) f.len cap) b f (i + 1) (n + q)) := hide ⟨GT, GC, NX.out⟩
          clear g6 GT GC hT hC ti5 KI BW
          go_wp2_with fail
          go_roundw
          case rel => exact ⟨i + 1, n + q, by omega, by go_num, by go_num, by omega, by omega, FI⟩
          case measure => simp [intOf]; omega
        · have i3 : ¬ (n : Int) ≤ (most : Int) := by omega
          have hr : fewT most (d + 1) f = n := by
            show fewL most d 1 f = n
            rw [← HE.out, fewL_stop hle]
          go_wp2_with fail
          go_ret
          exact ⟨rfl, hC.out⟩
      · have i2 : ¬ (i : Int) < (f.len : Int) := by omega
        have hif : i = f.len := by omega
        have hr : fewT most (d + 1) f = n := by
          show fewL most d 1 f = n
          rw [← HE.out, hif, Fs.from_end]
          cases d <;> rfl
        go_wp2_with fail
        go_ret
        exact ⟨rfl, hC.out⟩
theorem few_all (most : Nat) (hm : 1 ≤ most) (hm2 : most ≤ 1000) (N : Nat) : ∀ (f : Fs), f.size ≤ N → ∀ (d : Nat), d ≤ 100 → ∀ (v : Value) (b : Int) (X : Nat → Prop) (w : World), (∀ x, X x → x < w.heap.size) → Ts w X v f →
    Calls Tryd.prog 75 #[.agg #[v, .int .i64 b], .int .i64 most, .int .i64 d] w fun e w' => e = .returned (.int .i64 (fewT most d f)) ∧ Chg (fun _ => False) w w' := by
  induction N with
  | zero => exact fun f hf => few_step most hm hm2 0 (fun g hg => absurd hg (Nat.not_lt_zero _)) f hf
  | succ n ih => exact fun f hf => few_step most hm hm2 (n + 1) (fun g hg => ih g (by omega)) f hf

set_option maxRecDepth 100000 in
theorem Few_any (most d : Nat) (hm : 1 ≤ most) (hm2 : most ≤ 1000) (hd : d ≤ 100) (f : Fs) (v : Value) (b : Int) (X : Nat → Prop) (w : World) (hX : ∀ x, X x → x < w.heap.size) (hv : Ts w X v f) :
    Calls Tryd.prog 52 #[.agg #[v, .int .i64 b], .int .i64 most, .int .i64 d] w fun e w' => e = .returned (.bool (decide (fewT most d f ≤ most))) ∧ Chg (fun _ => False) w w' := by
  have G1 := hide (al w (.cells #[v, .int .i64 b] 92))
  have BX := blk_new w (.cells #[v, .int .i64 b] 92)
  have y0 := blk_cell BX 0
  have y1 := blk_cell BX 1
  simp only [List.getElem?_toArray, List.getElem?_cons_zero, List.getElem?_cons_succ] at y0 y1
  obtain ⟨a, cap, rfl, hx⟩ := id hv
  have fc := hide (few_all most hm hm2 f.size f (Nat.le_refl _) d hd _ b X _ (fun x hx => Nat.lt_of_lt_of_le (hX x hx) G1.out.size) (hv.chg G1.out (fun _ _ h => h)))
  clear hv hx BX
  obtain ⟨q, hq⟩ : ∃ q, fewT most d f = q := ⟨_, rfl⟩
  rw [hq] at fc ⊢
  clear hq
  go_enter Tryd.func52, Tryd.ntmps52
  go_wp2_with fail
  generalize w.alloc (.cells #[.slice a f.len cap, .int .i64 b] 92) = w1 at *
  refine fc.out.mono ?_
  rintro e w6 ⟨rfl, g6⟩
  have GG := hide (G1.out.trans g6)
  clear g6
  go_wp2_with fail
  go_ret
  refine ⟨?_, GG.out⟩
  simp
end Go.Proofs.YtnpcapdlgcaniaaDoor
