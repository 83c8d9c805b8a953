/- The reference numbers: to the base 10, as strconv.Itoa has them. -/
import Derived.Test.YtdoohocdaacnaaaDoorFresh
import Derived.Lib.ItoaLen
import Derived.Lib.ItoaMem
import Derived.Laws.BytesArg
namespace Go.Proofs.YtdoohocdaacnaaaDoor
open Go.RowKit
set_option linter.unusedVariables false
set_option linter.unusedSimpArgs false
theorem dec_step (m : Nat) : Lib.decDigits m = (if m / 10 = 0 then [] else Lib.decDigits (m / 10)) ++ [48 + UInt8.ofNat (m % 10)] := by
  have e : ∀ x : Nat, UInt8.ofNat (48 + x) = 48 + UInt8.ofNat x := fun x => by rw [UInt8.ofNat_add]; rfl
  rw [← e]
  by_cases h : m < 10
  · rw [Lib.decDigits_one h, if_pos (by omega), show m % 10 = m by omega]; rfl
  · rw [if_neg (by omega)]
    conv => lhs; rw [Lib.decDigits, dif_neg h]
def numTxt (n : Int) : ByteArray := ⟨(Lib.itoa n).toArray⟩

set_option maxRecDepth 100000 in
theorem number_pos (n : Nat) (h : (n : Int) ≤ 9223372036854775807) (w : World) : Calls Tryd.prog 40 #[.int .i64 n] w fun e w' => e = .returned (.string (numTxt n)) ∧ Below w.heap.size w w' := by
  have hm : (n : Int).tmod 10 = ((n % 10 : Nat) : Int) := by rw [Int.tmod_eq_emod_of_nonneg (by omega)]; omega
  have hd : (n : Int).tdiv 10 = ((n / 10 : Nat) : Int) := by rw [Int.tdiv_eq_ediv_of_nonneg (by omega)]; omega
  have hlt : n % 10 < 10 := Nat.mod_lt _ (by omega)
  have h5 : ((n : Int) == -9223372036854775808) = false := by simp
  have hcv : ∀ (w : World) (c : Int), (convert 71 9 (.slice (some ⟨w.heap.size, 0, none⟩) 1 1)).run Tryd.prog (w.alloc (.cells #[.int .u8 c] 5)) = .ok (.string ⟨#[UInt8.ofNat c.toNat]⟩) (w.alloc (.cells #[.int .u8 c] 5)) := by
    intro w c
    exact run_convert_bytes_arg (P := Tryd.prog) (w.alloc (.cells #[.int .u8 c] 5)) 71 5 (by kernel_rfl) (by kernel_rfl) w.heap.size 0 1 1 [c] rfl (fun i hi => by
      have : i = 0 := by omega
      subst this
      rw [blk_cell (blk_new w _)]; rfl) 9 (by kernel_rfl)
  have hstart : Hid (Lib.decDigits n = (if n / 10 = 0 then [] else Lib.decDigits (n / 10)) ++ (⟨#[48 + UInt8.ofNat (n % 10)]⟩ : ByteArray).data.toList) := dec_step n
  have hlen : Hid ((Lib.decDigits n).length ≤ 21) := by
    have := Lib.itoa_length_le n (by omega) h
    rwa [Lib.itoa_nonneg] at this
  have hfin : Hid (∀ t : ByteArray, Lib.decDigits n = t.data.toList → t = numTxt n) := by
    intro t ht
    unfold numTxt
    rw [Lib.itoa_nonneg, ht]
  go_enter Tryd.func40, Tryd.ntmps40
  go_wp2_with fail
  go_loopw [0, 3] (fun m t wr => ∃ (k : Nat) (b : ByteArray), m = .int .i64 k ∧ t = .string b ∧ (k : Int) ≤ 9223372036854775807 ∧ Hid (Lib.decDigits n = (if k = 0 then [] else Lib.decDigits k) ++ b.data.toList) ∧ Hid (Below w.heap.size w wr)) (fun m _ _ => (intOf m).toNat)
  case atStart => exact ⟨n / 10, _, by go_num, rfl, by omega, hstart.out, (Below.refl _ w).alloc (Nat.le_refl _) _⟩
  case round =>
    obtain ⟨k, b, rfl, rfl, hk, heq, hB⟩ := hrel
    have hb : b.size ≤ 21 := by
      have h1 := congrArg List.length heq.out
      rw [List.length_append] at h1
      have h2 := hlen.out
      have h3 : b.data.toList.length = b.size := by simp
      omega
    by_cases h0 : 0 < k
    · have h0I : (0 : Int) < (k : Int) := by omega
      have hnext : Hid (Lib.decDigits n = (if k / 10 = 0 then [] else Lib.decDigits (k / 10)) ++ ((⟨#[48 + UInt8.ofNat (k % 10)]⟩ : ByteArray) ++ b).data.toList) := by
        unfold Hid
        have h1 := heq.out
        rw [if_neg (by omega), dec_step k] at h1
        rw [h1, List.append_assoc]
        simp
      have hm : (k : Int).tmod 10 = ((k % 10 : Nat) : Int) := by rw [Int.tmod_eq_emod_of_nonneg (by omega)]; omega
      have hd : (k : Int).tdiv 10 = ((k / 10 : Nat) : Int) := by rw [Int.tdiv_eq_ediv_of_nonneg (by omega)]; omega
      have hlt : k % 10 < 10 := Nat.mod_lt _ (by omega)
      have hws := hB.out.size
      clear heq
      go_wp2_with fail
      go_roundw
      case rel => exact ⟨k / 10, (⟨#[48 + UInt8.ofNat (k % 10)]⟩ : ByteArray) ++ b, by go_num, rfl, by omega, hnext, hB.out.alloc hws _⟩
      case measure => simp [intOf]; omega
    · have h0' : k = 0 := by omega
      subst h0'
      have e := hfin.out b (by have := heq.out; simpa using this)
      have E := hide e
      clear heq e
      go_wp2_with fail
      go_ret
      exact ⟨by rw [← E.out]; rfl, hB.out⟩

end Go.Proofs.YtdoohocdaacnaaaDoor
