/- VocabNil's walk. -/
import Derived.Test.YtdoohocdaacnaaaDoorKnown
import Derived.Test.YtdoohocdaacnaaaDoorLaid
namespace Go.Proofs.YtdoohocdaacnaaaDoor
open Go.RowKit Go.Maps
set_option linter.unusedVariables false
set_option linter.unusedSimpArgs false

set_option maxRecDepth 100000 in
set_option maxHeartbeats 8000000 in
theorem nil_walk (s : ByteArray) (hs : s.size ≤ maxLen) (n : Int) (w : World) : Calls Tryd.prog 7 #[.string s, .int .i64 n] w fun e w' => e = .returned (.bool true) ∧ Chg (fun _ => False) w w' := by
  have ty := hide (fun w => type_any 0 0 (.pointer none) none n w (Nat.zero_le _) rfl)
  have nm := hide (fun w => name_any 0 0 (.pointer none) none n w rfl)
  have hh := hide (fun w => (has_nil (.slice (some ⟨w.heap.size, 0, none⟩) 1 1) [s] (by simp) _ _ (one_row w s hs)))
  have h0 := hide (fun w => (has_nil (.slice none 0 0) [] (by decide) (fun _ => False) w ⟨fun x hx => (List.not_mem_nil hx).elim, _, _, rfl, Or.inl rfl⟩))
  have HS := hide hs
  simp only [Option.map, atV] at ty nm
  go_enter Tryd.func7, Tryd.ntmps7
  go_wp2_with fail
  refine (base_nil s _).mono ?_
  rintro e w' ⟨rfl, rfl⟩
  go_wp2_with fail
  refine (const_nil s _).mono ?_
  rintro e w' ⟨rfl, rfl⟩
  go_wp2_with fail
  refine (ty.out _).mono ?_
  rintro e w2 ⟨⟨v', rfl, hv⟩, g2⟩
  obtain ⟨a2, c2, rfl, _⟩ := id hv
  have G2 := hide (g2.alloc (.cells #[.slice a2 0 c2, .int .i64 0] 30))
  simp only [Fs.len]
  clear g2 hv ty
  go_wp2_with fail
  generalize w2.alloc (.cells #[.slice a2 0 c2, .int .i64 0] 30) = w3 at *
  refine (nm.out _).mono ?_
  rintro e w4 ⟨rfl, g4⟩
  have G4 := hide (G2.out.trans g4)
  clear g4 nm G2
  go_wp2_with fail
  refine (fresh_nil s _).mono ?_
  rintro e w' ⟨rfl, rfl⟩
  go_wp2_with fail
  refine (table_nil _).mono ?_
  rintro e w5 ⟨rfl, g5⟩
  have G5 := hide ((G4.out.trans g5).alloc (.cells #[.slice none 0 0, .slice none 0 0] 26))
  have b5 := blk_new w5 (.cells #[.slice none 0 0, .slice none 0 0] 26)
  have z0 := blk_cell b5 0
  have z1 := blk_cell b5 1
  simp only [List.getElem?_toArray, List.getElem?_cons_zero, List.getElem?_cons_succ] at z0 z1
  clear g5 G4 b5
  go_wp2_with fail
  generalize w5.alloc (.cells #[.slice none 0 0, .slice none 0 0] 26) = w6 at *
  refine (known_any _).mono ?_
  rintro e w7 ⟨rfl, g7⟩
  have y0 := g7.cell (fun h => h) z0
  have y1 := g7.cell (fun h => h) z1
  have G7 := hide (G5.out.trans g7)
  clear g7 G5 z0 z1
  go_wp2_with fail
  refine (types_nil _).mono ?_
  rintro e w' ⟨rfl, rfl⟩
  have G8 := hide (G7.out.alloc (.cells #[.string s] 9))
  go_wp2_with fail
  refine (hh.out _).mono ?_
  rintro e w' ⟨rfl, rfl⟩
  go_wp2_with fail
  refine (h0.out _).mono ?_
  rintro e w' ⟨rfl, rfl⟩
  go_wp2_with fail
  go_ret
  exact ⟨rfl, G8.out⟩

theorem nil_law (W : World) (hT : Tabs W) (s : ByteArray) (hs : s.size ≤ maxLen) (n : Int) (hn : (Lit.int .i64 n).wf = true) : Calls Tryd.prog 7 #[.string s, .int .i64 n] W fun e W' => e = .returned (.bool true) ∧ Below W.heap.size W W' :=
  (nil_walk s hs n W).mono fun e W' ⟨h, g⟩ => ⟨h, g.below (Nat.le_refl _) (fun _ h => h.elim)⟩
end Go.Proofs.YtdoohocdaacnaaaDoor
