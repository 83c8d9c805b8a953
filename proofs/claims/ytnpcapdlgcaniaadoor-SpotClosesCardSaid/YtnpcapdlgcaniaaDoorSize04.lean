/- The document's size of a type. -/
import Derived.Test.YtnpcapdlgcaniaaDoorFew
namespace Go.Proofs.YtnpcapdlgcaniaaDoor
open Go.RowKit
set_option linter.unusedVariables false
set_option linter.unusedSimpArgs false

theorem Fs.from_size (f : Fs) (i : Nat) (h : i < f.toL.length) : (f.from i).size = (f.toL[i]).1.size + (f.from (i + 1)).size + 1 := by
  rw [Fs.from_at f i h]
  rfl
theorem Fs.from_le (f : Fs) : ∀ i, (f.from i).size ≤ f.size := by
  intro i
  by_cases hi : i < f.toL.length
  · induction i with
    | zero => rw [Fs.from_zero]; exact Nat.le_refl _
    | succ i ih => have h1 := Fs.from_size f i (by omega); have h2 := ih (by omega); omega
  · unfold Fs.from
    rw [List.drop_eq_nil_of_le (by omega)]
    exact Nat.zero_le _
/-- what the loop keeps -/
def SizeInv (w wr : World) (P : Nat) (v : Value) (b : Int) (f : Fs) (i n : Nat) : Prop :=
  Hid (wr.heap[P]? = some (.cells #[v, .int .i64 b] 92)) ∧ Hid (Chg (fun _ => False) w wr) ∧ Hid (n + (f.from i).size = 1 + f.size)

set_option maxRecDepth 100000 in
set_option maxHeartbeats 4000000 in
theorem size_step (N : Nat) (hN : N ≤ 100000) (ih : ∀ (f : Fs), f.size < N → ∀ (v : Value) (b : Int) (X : Nat → Prop) (w : World), (∀ x, X x → x < w.heap.size) → Ts w X v f →
    Calls Tryd.prog 83 #[.agg #[v, .int .i64 b]] w fun e w' => e = .returned (.int .i64 ((1 + f.size : Nat) : Int)) ∧ Chg (fun _ => False) w w')
    (f : Fs) (hf : f.size ≤ N) (v : Value) (b : Int) (X : Nat → Prop) (w : World) (hB : ∀ x, X x → x < w.heap.size) (hv : Ts w X v f) :
    Calls Tryd.prog 83 #[.agg #[v, .int .i64 b]] w fun e w' => e = .returned (.int .i64 ((1 + f.size : Nat) : Int)) ∧ Chg (fun _ => False) w w' := by
  have IH := hide ih
  obtain ⟨a, cap, rfl, hx⟩ := id hv
  have HV := hide hv
  have HB := hide hB
  have HF := hide hf
  have htl := Fs.toL_len f
  have hfl := Fs.len_size f
  have G1 := hide (al w (.cells #[.slice a f.len cap, .int .i64 b] 92))
  have BX := hide (blk_new w (.cells #[.slice a f.len cap, .int .i64 b] 92))
  clear hx hv ih hB hf
  have hfN : f.size ≤ 100000 := Nat.le_trans HF.out hN
  go_enter Tryd.func83, Tryd.ntmps83
  go_wp2_with fail
  obtain ⟨P, hP⟩ : ∃ P, w.heap.size = P := ⟨_, rfl⟩
  have HP := hide hP
  rw [hP] at BX ⊢
  clear hP
  generalize w.alloc (.cells #[.slice a f.len cap, .int .i64 b] 92) = w1 at *
  go_loopw [3, 4] (fun nv iv wr => ∃ (i n : Nat), i ≤ f.len ∧ nv = .int .i64 n ∧ iv = .int .i64 i ∧ n ≤ 1 + f.size ∧ Hid (SizeInv w wr P (.slice a f.len cap) b f i n)) (fun _ iv _ => f.len - (intOf iv).toNat)
  case atStart => exact ⟨0, 1, Nat.zero_le _, rfl, rfl, by omega, hide ⟨BX, G1, hide (by rw [Fs.from_zero])⟩⟩
  case round =>
    clear BX
    obtain ⟨i, n, hi, rfl, rfl, hnb, hIN⟩ := hrel
    obtain ⟨hT, hC, HE⟩ := hIN.out
    clear hIN
    have xP := blk_cell hT.out 0
    have fP := blk_free hT.out 0
    simp only [List.getElem?_toArray, List.getElem?_cons_zero, List.getElem?_cons_succ] at xP
    by_cases hlt : i < f.len
    · have i2 : (i : Int) < (f.len : Int) := by omega
      have hit : i < f.toL.length := by omega
      obtain ⟨la, lc, hlv, hl⟩ := HV.out
      rcases hl with h0 | ⟨g, off, rfl, hg, hl⟩
      · subst h0; exact absurd hlt (Nat.not_lt_zero _)
      injection hlv with e1 e2 e3
      subst e1
      subst e3
      obtain ⟨⟨vi, c0, ti⟩, c1⟩ := lies_get hl i hit
      obtain ⟨ka, kc, rfl, _⟩ := id ti
      have hks := Fs.kid_size f i hit
      have d0 := hC.out.cell (fun h => h) c0
      have d1 := hC.out.cell (fun h => h) c1
      have ti5 := hide (ti.chg hC.out (fun _ _ h => h))
      have KI := hide (IH.out (f.toL[i]).1 (by have := HF.out; omega) (.slice ka (f.toL[i]).1.len kc) (f.toL[i]).2 X)
      have BW := hide (fun x (hx : X x) => Nat.lt_of_lt_of_le (HB.out x hx) hC.out.size)
      have i1 : (0 : Int) ≤ (i : Int) := by omega
      have NX : Hid (n + (1 + (f.toL[i]).1.size) + (f.from (i + 1)).size = 1 + f.size) := hide (by have := HE.out; have := Fs.from_size f i hit; omega)
      have FL : n + (1 + (f.toL[i]).1.size) ≤ 1 + f.size := by have := NX.out; omega
      clear hl c0 c1 ti hks HE
      generalize hq : 1 + (f.toL[i]).1.size = q at *
      obtain ⟨kk, hkk⟩ : ∃ kk, kk = (f.toL[i]).1 := ⟨_, rfl⟩
      rw [← hkk] at d0 ti5 KI hq
      generalize (f.toL[i]).2 = kb at *
      clear hkk hq
      go_wp2_with fail
      refine (KI.out wr BW.out ti5.out).mono ?_
      rintro e w6 ⟨rfl, g6⟩
      have GT := hide (g6.blk (fun h => h) hT.out)
      have GC := hide (hC.out.trans g6)
      have FI : Hid (SizeInv w w6 P (.slice (some ⟨g, off, none⟩) f.len cap) b f (i + 1) (n + q)) := hide ⟨GT, GC, NX⟩
      clear g6 GT GC hT hC ti5 KI BW
      go_wp2_with fail
      go_roundw
      case rel => exact ⟨i + 1, n + q, by omega, by go_num, by go_num, by omega, FI⟩
      case measure => simp [intOf]; omega
    · have i2 : ¬ (i : Int) < (f.len : Int) := by omega
      have hif : i = f.len := by omega
      have hr : n = 1 + f.size := by
        have h := HE.out
        rw [hif, Fs.from_end] at h
        exact h
      go_wp2_with fail
      go_ret
      subst hr
      exact ⟨rfl, hC.out⟩
theorem size_all (N : Nat) (hN : N ≤ 100000) : ∀ (f : Fs), f.size ≤ N → ∀ (v : Value) (b : Int) (X : Nat → Prop) (w : World), (∀ x, X x → x < w.heap.size) → Ts w X v f →
    Calls Tryd.prog 83 #[.agg #[v, .int .i64 b]] w fun e w' => e = .returned (.int .i64 ((1 + f.size : Nat) : Int)) ∧ Chg (fun _ => False) w w' := by
  induction N with
  | zero => exact fun f hf => size_step 0 hN (fun g hg => absurd hg (Nat.not_lt_zero _)) f hf
  | succ n ih => exact fun f hf => size_step (n + 1) hN (fun g hg => ih (by omega) g (by omega)) f hf
end Go.Proofs.YtnpcapdlgcaniaaDoor
