/- Is of a text of any length: is it a word? -/
import Derived.Test.YtdoohocdaacnaaaDoorLexR4
import Derived.Test.YtdoohocdaacnaaaDoorNames
namespace Go.Proofs.YtdoohocdaacnaaaDoor
open Go.RowKit
set_option linter.unusedVariables false
set_option linter.unusedSimpArgs false

theorem splitR_long (s : ByteArray) (h : 20000 < s.size) (hl : s.size ≤ 9223372036854775807) (w : World) :
    Calls Tryd.prog 49 #[.string s] w fun e w' => e = .returned (.tuple #[.slice none 0 0, .agg #[.int .i64 2, .int .i64 1, .int .i64 1, .string ⟨#[]⟩]]) ∧ Chg (fun _ => False) w w' := by
  have i1 : (20000 : Int) < (s.size : Int) := by omega
  have B0 := blk_new w (.cells #[.int .i64 2, .int .i64 1, .int .i64 1, .string ⟨#[]⟩] 116)
  have G0 := hide (al w (.cells #[.int .i64 2, .int .i64 1, .int .i64 1, .string ⟨#[]⟩] 116))
  have z0 := blk_cell B0 0
  have z1 := blk_cell B0 1
  have z2 := blk_cell B0 2
  have z3 := blk_cell B0 3
  simp only [List.getElem?_toArray, List.getElem?_cons_zero, List.getElem?_cons_succ] at z0 z1 z2 z3
  clear B0
  go_enter Tryd.func49, Tryd.ntmps49
  go_wp2_with fail
  generalize w.alloc (.cells #[.int .i64 2, .int .i64 1, .int .i64 1, .string ⟨#[]⟩] 116) = w1 at *
  refine bodyPost_ret (fn := Tryd.f49) (v := .tuple #[.slice none 0 0, .agg #[.int .i64 2, .int .i64 1, .int .i64 1, .string ⟨#[]⟩]]) (by simp [results, Tryd.results49, go_sem, z0, z1, z2, z3]) rfl ?_
  exact ⟨rfl, G0.out⟩

theorem isR_long (s : ByteArray) (h : 20000 < s.size) (hl : s.size ≤ 9223372036854775807) (w : World) :
    Calls Tryd.prog 36 #[.string s, .int .i64 1] w fun e w' => e = .returned (.bool (wordB s)) ∧ Chg (fun _ => False) w w' := by
  have hw : wordB s = false := by
    unfold wordB
    split
    · rfl
    · have h1 : ¬ s.size ≤ 30 := by omega
      simp [h1]
  rw [hw]
  have sl := hide (splitR_long s h hl w)
  go_enter Tryd.func36, Tryd.ntmps36
  go_wp2_with fail
  refine sl.out.mono ?_
  rintro e w1 ⟨rfl, g1⟩
  have G1 := hide (g1.trans (al w1 (.cells #[.int .i64 2, .int .i64 1, .int .i64 1, .string ⟨#[]⟩] 116)))
  clear g1
  go_wp2_with fail
  go_ret
  exact ⟨rfl, G1.out⟩

theorem isR_any (s : ByteArray) (hl : s.size ≤ 9223372036854775807) (w : World) :
    Calls Tryd.prog 36 #[.string s, .int .i64 1] w fun e w' => e = .returned (.bool (wordB s)) ∧ Chg (fun _ => False) w w' := by
  by_cases h : s.size ≤ 20000
  · refine (R.is_any s 1 h w).mono fun e w' ⟨he, hb⟩ => ⟨by rw [he, R.isB_word], (Chg.of_below hb).mono (fun x hx h => by omega)⟩
  · exact isR_long s (by omega) hl w
end Go.Proofs.YtdoohocdaacnaaaDoor
