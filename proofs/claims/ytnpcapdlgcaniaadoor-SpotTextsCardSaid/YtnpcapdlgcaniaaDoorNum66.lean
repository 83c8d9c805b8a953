/- The reference numbers: to the base 10, as strconv.Itoa has them. -/
import Derived.Test.YtnpcapdlgcaniaaDoorText
import Derived.Lib.ItoaLen
import Derived.Lib.ItoaMem
import Derived.Laws.BytesArg
namespace Go.Proofs.YtnpcapdlgcaniaaDoor
open Go.RowKit
set_option linter.unusedVariables false
set_option linter.unusedSimpArgs false
theorem dec_step (m : Nat) : Lib.decDigits m = (if m / 10 = 0 then [] else Lib.decDigits (m / 10)) ++ [48 + UInt8.ofNat (m % 10)] := by
  have e : ∀ x : Nat, UInt8.ofNat (48 + x) = 48 + UInt8.ofNat x := fun x => by rw [UInt8.ofNat_add]; rfl
  rw [← e]
  by_cases h : m < 10
  · rw [Lib.decDigits_one h, if_pos (by omega), show m % 10 = m by omega]; rfl
  · rw [if_neg (by omega)]
    conv => lhs; rw [Lib.decDigits, dif_neg h]

set_option maxRecDepth 100000 in
theorem number_pos (n : Nat) (h : (n : Int) ≤ 9223372036854775807) (w : World) : Calls Tryd.prog 66 #[.int .i64 n] w fun e w' => e = .returned (.string (itoaB n)) ∧ Below w.heap.size w w' := by
  have hm : (n : Int).tmod 10 = ((n % 10 : Nat) : Int) := by rw [Int.tmod_eq_emod_of_nonneg (by omega)]; omega
  have hd : (n : Int).tdiv 10 = ((n / 10 : Nat) : Int) := by rw [Int.tdiv_eq_ediv_of_nonneg (by omega)]; omega
  have hlt : n % 10 < 10 := Nat.mod_lt _ (by omega)
  have h5 : ((n : Int) == -9223372036854775808) = false := by simp
  have hcv : ∀ (w : World) (c : Int), (convert 129 9 (.slice (some ⟨w.heap.size, 0, none⟩) 1 1)).run Tryd.prog (w.alloc (.cells #[.int .u8 c] 5)) = .ok (.string ⟨#[UInt8.ofNat c.toNat]⟩) (w.alloc (.cells #[.int .u8 c] 5)) := by
    intro w c
    exact run_convert_bytes_arg (P := Tryd.prog) (w.alloc (.cells #[.int .u8 c] 5)) 129 5 (by kernel_rfl) (by kernel_rfl) w.heap.size 0 1 1 [c] rfl (fun i hi => by
      have : i = 0 := by omega
      subst this
      rw [blk_cell (blk_new w _)]; rfl) 9 (by kernel_rfl)
  have hstart : Hid (Lib.decDigits n = (if n / 10 = 0 then [] else Lib.decDigits (n / 10)) ++ (⟨#[48 + UInt8.ofNat (n % 10)]⟩ : ByteArray).data.toList) := dec_step n
  have hlen : Hid ((Lib.decDigits n).length ≤ 21) := by
    have := Lib.itoa_length_le n (by omega) h
    rwa [Lib.itoa_nonneg] at this
  have hfin : Hid (∀ t : ByteArray, Lib.decDigits n = t.data.toList → t = itoaB n) := by
    intro t ht
    unfold itoaB
    rw [Lib.itoa_nonneg, ht]
  go_enter Tryd.func66, Tryd.ntmps66
  go_wp2_with fail
  go_loopw [0, 3] (fun m t wr => ∃ (k : Nat) (b : ByteArray), m = .int .i64 k ∧ t = .string b ∧ (k : Int) ≤ 9223372036854775807 ∧ Hid (Lib.decDigits n = (if k = 0 then [] else Lib.decDigits k) ++ b.data.toList) ∧ Hid (Below w.heap.size w wr)) (fun m _ _ => (intOf m).toNat)
  case atStart => exact ⟨n / 10, _, by go_num, rfl, by omega, hstart.out, (Below.refl _ w).alloc (Nat.le_refl _) _⟩
  case round =>
    obtain ⟨k, b, rfl, rfl, hk, heq, hB⟩ := hrel
    have hb : b.size ≤ 21 := by
      have h1 := congrArg List.length heq.out
      rw [List.length_append] at h1
      have h2 := hlen.out
      have h3 : b.data.toList.length = b.size := by simp
      omega
    by_cases h0 : 0 < k
    · have h0I : (0 : Int) < (k : Int) := by omega
      have hnext : Hid (Lib.decDigits n = (if k / 10 = 0 then [] else Lib.decDigits (k / 10)) ++ ((⟨#[48 + UInt8.ofNat (k % 10)]⟩ : ByteArray) ++ b).data.toList) := by
        unfold Hid
        have h1 := heq.out
        rw [if_neg (by omega), dec_step k] at h1
        rw [h1, List.append_assoc]
        simp
      have hm : (k : Int).tmod 10 = ((k % 10 : Nat) : Int) := by rw [Int.tmod_eq_emod_of_nonneg (by omega)]; omega
      have hd : (k : Int).tdiv 10 = ((k / 10 : Nat) : Int) := by rw [Int.tdiv_eq_ediv_of_nonneg (by omega)]; omega
      have hlt : k % 10 < 10 := Nat.mod_lt _ (by omega)
      have hws := hB.out.size
      clear heq
      go_wp2_with fail
      go_roundw
      case rel => exact ⟨k / 10, (⟨#[48 + UInt8.ofNat (k % 10)]⟩ : ByteArray) ++ b, by go_num, rfl, by omega, hnext, hB.out.alloc hws _⟩
      case measure => simp [intOf]; omega
    · have h0' : k = 0 := by omega
      subst h0'
      have e := hfin.out b (by have := heq.out; simpa using this)
      have E := hide e
      clear heq e
      go_wp2_with fail
      go_ret
      exact ⟨by rw [← E.out]; rfl, hB.out⟩

set_option maxRecDepth 100000 in
theorem number_any (n : Int) (h0 : -9223372036854775808 ≤ n) (h1 : n ≤ 9223372036854775807) (w : World) : Calls Tryd.prog 66 #[.int .i64 n] w fun e w' => e = .returned (.string (itoaB n)) ∧ Below w.heap.size w w' := by
  by_cases hn : n < 0
  · by_cases hm : n = -9223372036854775808
    · subst hm
      have e : itoaB (-9223372036854775808) = ⟨#[45, 57, 50, 50, 51, 51, 55, 50, 48, 51, 54, 56, 53, 52, 55, 55, 53, 56, 48, 56]⟩ := by kernel_rfl
      rw [e]
      clear e h0 h1 hn
      go_enter Tryd.func66, Tryd.ntmps66
      go_wp2_with fail
      go_ret
      exact ⟨rfl, Below.refl _ _⟩
    · obtain ⟨u, rfl⟩ : ∃ u : Nat, n = -(u : Int) := ⟨n.natAbs, by omega⟩
      have np := hide (number_pos u (by omega) w)
      have hl := Lib.itoa_length_le u (by omega) (by omega)
      have hz : (itoaB u).size ≤ 21 := by simpa [itoaB, ByteArray.size] using hl
      have hf : Hid ((⟨#[45]⟩ : ByteArray) ++ itoaB u = itoaB (-(u : Int))) := by
        unfold Hid itoaB
        rw [Lib.itoa_neg u (by omega), Lib.itoa_nonneg]
        apply ByteArray.ext
        simp
      have h5 : ((-(u : Int)) == -9223372036854775808) = false := by simp; omega
      have h6 : -(u : Int) < 0 := hn
      have h7 : 0 < (u : Int) := by omega
      have h8 : (u : Int) ≤ 9223372036854775807 := by omega
      clear hl
      generalize itoaB (u : Int) = A at *
      go_enter Tryd.func66, Tryd.ntmps66
      go_wp2_with fail
      refine np.out.mono ?_
      rintro e w' ⟨rfl, hB⟩
      have HB := hide hB
      clear hB
      go_wp2_with fail
      go_ret
      exact ⟨by rw [← hf.out]; rfl, HB.out⟩
  · obtain ⟨u, rfl⟩ : ∃ u : Nat, n = (u : Int) := ⟨n.natAbs, by omega⟩
    exact number_pos u h1 w
end Go.Proofs.YtnpcapdlgcaniaaDoor
