/- word: one of many words. -/
import Derived.Test.YtdoohocdaacnaaaDoorKnown
import Derived.Laws.BytesArg
namespace Go.Proofs.YtdoohocdaacnaaaDoor
open Go.RowKit Go.Maps
set_option linter.unusedVariables false
set_option linter.unusedSimpArgs false

/-- the i-th word -/
def wd (i : Nat) : ByteArray := ⟨#[119, UInt8.ofNat (97 + i % 26), UInt8.ofNat (97 + i / 26 % 26), UInt8.ofNat (97 + i / 676 % 26)]⟩

theorem wd_nums (i : Nat) : strOfNums [119, 97 + (i : Int) % 26, 97 + (i : Int) / 26 % 26, 97 + (i : Int) / 676 % 26] = wd i := by
  have a1 : (97 + (i : Int) % 26).toNat = 97 + i % 26 := by omega
  have a2 : (97 + (i : Int) / 26 % 26).toNat = 97 + i / 26 % 26 := by omega
  have a3 : (97 + (i : Int) / 676 % 26).toNat = 97 + i / 676 % 26 := by omega
  unfold strOfNums wd
  simp only [List.map_cons, List.map_nil, a1, a2, a3]
  rfl

set_option maxRecDepth 100000 in
set_option maxHeartbeats 4000000 in
theorem word_any (i : Nat) (hi : i < 17576) (w : World) : Calls Tryd.prog 8 #[.int .i64 i] w fun e w' => e = .returned (.string (wd i)) ∧ Chg (fun _ => False) w w' := by
  have hb := blk_new w (.cells #[.int .u8 119, .int .u8 (97 + (i : Int) % 26), .int .u8 (97 + (i : Int) / 26 % 26), .int .u8 (97 + (i : Int) / 676 % 26)] 5)
  have hc := run_convert_bytes_arg (P := Tryd.prog) (w.alloc (.cells #[.int .u8 119, .int .u8 (97 + (i : Int) % 26), .int .u8 (97 + (i : Int) / 26 % 26), .int .u8 (97 + (i : Int) / 676 % 26)] 5)) 71 5 Tryd.underlying71 Tryd.underlying5 w.heap.size 0 4 4 [119, 97 + (i : Int) % 26, 97 + (i : Int) / 26 % 26, 97 + (i : Int) / 676 % 26] rfl (fun j hj => by
    have h4 : j = 0 ∨ j = 1 ∨ j = 2 ∨ j = 3 := by omega
    rcases h4 with rfl | rfl | rfl | rfl
    · exact blk_cell hb 0
    · exact blk_cell hb 1
    · exact blk_cell hb 2
    · exact blk_cell hb 3) 9 Tryd.underlying9
  rw [wd_nums] at hc
  have F := hide (al w (.cells #[.int .u8 119, .int .u8 (97 + (i : Int) % 26), .int .u8 (97 + (i : Int) / 26 % 26), .int .u8 (97 + (i : Int) / 676 % 26)] 5))
  clear hb
  go_enter Tryd.func8, Tryd.ntmps8
  go_wp2_with fail
  go_ret
  exact ⟨rfl, F.out⟩

theorem wd_inj {i j : Nat} (hi : i < 17576) (hj : j < 17576) (h : wd i = wd j) : i = j := by
  unfold wd at h
  simp only [ByteArray.mk.injEq, Array.mk.injEq, List.cons.injEq, and_true, true_and] at h
  obtain ⟨h1, h2, h3⟩ := h
  have g1 := congrArg UInt8.toNat h1
  have g2 := congrArg UInt8.toNat h2
  have g3 := congrArg UInt8.toNat h3
  simp only [UInt8.toNat_ofNat'] at g1 g2 g3
  omega
theorem wd_size (i : Nat) : (wd i).size = 4 := rfl

theorem wd_word (i : Nat) : wordB (wd i) = true := by
  have hL : ∀ k, k < 26 → isLetter (UInt8.ofNat (97 + k)) = true := by
    intro k hk
    have hc : ((List.range 26).all fun k => isLetter (UInt8.ofNat (97 + k))) = true := by kernel_rfl
    rw [List.all_eq_true] at hc
    exact hc k (List.mem_range.2 hk)
  have hI : ∀ k, k < 26 → isInner (UInt8.ofNat (97 + k)) = true := by
    intro k hk
    have hc : ((List.range 26).all fun k => isInner (UInt8.ofNat (97 + k))) = true := by kernel_rfl
    rw [List.all_eq_true] at hc
    exact hc k (List.mem_range.2 hk)
  have h1 := hI (i % 26) (by omega)
  have h2 := hI (i / 26 % 26) (by omega)
  have h3 := hI (i / 676 % 26) (by omega)
  unfold wordB wd
  simp only
  generalize UInt8.ofNat (97 + i % 26) = a at *
  generalize UInt8.ofNat (97 + i / 26 % 26) = b at *
  generalize UInt8.ofNat (97 + i / 676 % 26) = c at *
  have h0 : isInner 119 = true := by decide
  simp only [runLen, h0, h1, h2, h3, if_true]
  rfl
end Go.Proofs.YtdoohocdaacnaaaDoor
