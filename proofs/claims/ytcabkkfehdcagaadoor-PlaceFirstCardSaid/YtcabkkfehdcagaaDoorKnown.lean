/- The law's own helpers: known, few, to, of. -/
import Derived.Test.YtcabkkfehdcagaaDoorText
import Derived.Test.YtcabkkfehdcagaaDoorRef
namespace Go.Proofs.YtcabkkfehdcagaaDoor
open Go.RowKit
set_option linter.unusedVariables false

def kT : ByteArray := ⟨#[97, 98, 10, 99]⟩
theorem kT_mark : markOf (kT.data.toList.take 3) = (2, 1) := by kernel_rfl
theorem kT_lines : linesOf kT (kT.size + 1) 0 = [(0, ⟨#[97, 98]⟩), (3, ⟨#[99]⟩)] := by kernel_rfl
theorem known_of (w : World) : Calls Tryd.prog 18 #[.string ⟨#[97, 98, 10, 99]⟩, .int .i64 3] w fun e w' => e = .returned (.tuple #[.agg #[.int .i64 2, .int .i64 1], .int .i64 0]) ∧ Below w.heap.size w w' := by
  have := of_any kT (by decide) 3 (by decide) w
  rw [kT_mark] at this
  exact this
theorem known_line (w : World) : Calls Tryd.prog 16 #[.string ⟨#[97, 98, 10, 99]⟩, .int .i64 2] w fun e w' => e = .returned (.tuple #[.string ⟨#[99]⟩, .int .i64 0]) ∧ Below w.heap.size w w' := by
  refine (line_any kT (by decide) 2 w).mono ?_
  rintro e w' ⟨⟨ys, hp, h⟩, hB⟩
  refine ⟨?_, hB⟩
  rw [kT_lines] at hp h
  rcases h with ⟨ini, last, rfl, hn, rfl⟩ | ⟨hy, hn, -⟩
  · have hl : ini.length = 1 := by omega
    match ini, hl with
    | [a], _ =>
      obtain ⟨t, ht⟩ := hp
      simp only [List.map_cons, List.map_nil, List.cons_append, List.nil_append, List.cons.injEq] at ht
      rw [ht.2.1]
  · have := congrArg List.length hy
    simp at this
    omega
theorem known_text : textOf 4 2 1 ⟨#[120]⟩ = ⟨#[50, 58, 49, 58, 32, 110, 97, 109, 101, 32, 120]⟩ := by kernel_rfl

set_option maxRecDepth 100000 in
set_option maxHeartbeats 2000000 in
theorem known_any (w : World) (hT : Tabs w) : Calls Tryd.prog 10 #[] w fun e w' => e = .returned (.bool true) ∧ Below w.heap.size w w' := by
  have o := hide known_of
  have li := hide known_line
  have tx : Hid (∀ w, Tabs w → Calls Tryd.prog 11 #[.agg #[.int .i64 4, .int .i64 2, .int .i64 1, .string ⟨#[120]⟩]] w fun e w' => e = .returned (.string ⟨#[50, 58, 49, 58, 32, 110, 97, 109, 101, 32, 120]⟩) ∧ Below w.heap.size w w') := fun w h => by
    have := text_any 4 2 1 ⟨#[120]⟩ (by decide) (by decide) (by decide) (by decide) (by decide) w h
    rwa [known_text] at this
  have HT := hide hT
  clear hT
  go_enter Tryd.func10, Tryd.ntmps10
  go_wp2_with fail
  refine (o.out _).mono ?_
  rintro e w1 ⟨rfl, h1⟩
  have H1 := hide h1
  have e1 := blk_new w1 (Obj.cells #[.int .i64 2, .int .i64 1] 30)
  have hs1 : (w1.alloc (Obj.cells #[.int .i64 2, .int .i64 1] 30)).heap.size = w1.heap.size + 1 := by simp
  clear h1
  go_wp2_with fail
  refine (li.out _).mono ?_
  rintro e w2 ⟨rfl, h2⟩
  have k2 := (h2.block w1.heap.size (by rw [hs1]; omega)).trans e1
  have c0 := blk_cell k2 0
  have c1 := blk_cell k2 1
  have hB2 : Hid (Below w.heap.size w w2) := (H1.out.alloc H1.out.size _).trans (h2.mono (by have := H1.out.size; rw [hs1]; omega))
  clear k2 e1 hs1 h2
  go_wp2_with fail
  refine (tx.out _ (HT.out.below hB2.out)).mono ?_
  rintro e w3 ⟨rfl, h3⟩
  have hB3 : Hid (Below w.heap.size w w3) := hB2.out.trans (h3.mono hB2.out.size)
  clear h3
  go_wp2_with fail
  go_ret
  exact ⟨rfl, hB3.out⟩
end Go.Proofs.YtcabkkfehdcagaaDoor
