/- How a fault is told: errors' words, numbers, place.Name, place.Text, the reference's Number and Name. -/
import Derived.Test.YtcabkkfehdcagaaDoorFns
namespace Go.Proofs.YtcabkkfehdcagaaDoor
open Go.RowKit
set_option linter.unusedVariables false
set_option linter.unusedSimpArgs false

def words : List ByteArray := [⟨#[111, 107]⟩, ⟨#[97, 114, 103, 117, 109, 101, 110, 116]⟩, ⟨#[108, 105, 109, 105, 116]⟩, ⟨#[102, 111, 114, 109]⟩, ⟨#[110, 97, 109, 101]⟩, ⟨#[116, 121, 112, 101]⟩, ⟨#[112, 97, 116, 116, 101, 114, 110]⟩, ⟨#[114, 117, 108, 101]⟩, ⟨#[111, 114, 100, 101, 114]⟩, ⟨#[99, 108, 97, 115, 104]⟩, ⟨#[110, 111, 110, 101]⟩, ⟨#[102, 117, 101, 108]⟩, ⟨#[112, 114, 111, 111, 102]⟩, ⟨#[115, 116, 97, 116, 101]⟩]
def nameOf (n : Int) : ByteArray := if 0 ≤ n ∧ n < 14 then words.getD n.toNat ⟨#[]⟩ else ⟨#[63]⟩

theorem upto14 (n : Int) (h : 0 ≤ n ∧ n < 14) : n = 0 ∨ n = 1 ∨ n = 2 ∨ n = 3 ∨ n = 4 ∨ n = 5 ∨ n = 6 ∨ n = 7 ∨ n = 8 ∨ n = 9 ∨ n = 10 ∨ n = 11 ∨ n = 12 ∨ n = 13 := by omega

set_option maxRecDepth 100000 in
set_option maxHeartbeats 2000000 in
theorem refName_any (n : Int) (w : World) : Calls Tryd.prog 9 #[.int .i64 n] w fun e w' => e = .returned (.string (nameOf n)) ∧ w = w' := by
  by_cases h : 0 ≤ n ∧ n < 14
  · rcases upto14 n h with rfl | rfl | rfl | rfl | rfl | rfl | rfl | rfl | rfl | rfl | rfl | rfl | rfl | rfl
    all_goals
      clear h
      go_enter Tryd.func9, Tryd.ntmps9
      go_wp2_with fail
      go_ret
      exact ⟨rfl, rfl⟩
  · have e : nameOf n = ⟨#[63]⟩ := by unfold nameOf; rw [if_neg h]
    have n0 : (n == 0) = false := by simp; omega
    have n1 : (n == 1) = false := by simp; omega
    have n2 : (n == 2) = false := by simp; omega
    have n3 : (n == 3) = false := by simp; omega
    have n4 : (n == 4) = false := by simp; omega
    have n5 : (n == 5) = false := by simp; omega
    have n6 : (n == 6) = false := by simp; omega
    have n7 : (n == 7) = false := by simp; omega
    have n8 : (n == 8) = false := by simp; omega
    have n9 : (n == 9) = false := by simp; omega
    have n10 : (n == 10) = false := by simp; omega
    have n11 : (n == 11) = false := by simp; omega
    have n12 : (n == 12) = false := by simp; omega
    have n13 : (n == 13) = false := by simp; omega
    rw [e]
    clear e h
    go_enter Tryd.func9, Tryd.ntmps9
    go_wp2_with fail
    go_ret
    exact ⟨rfl, rfl⟩

theorem gPow : Tryd.prog.globalNamed "internal/strconv.uint64pow10" = some 2 := by kernel_rfl
theorem gSpace : Tryd.prog.globalNamed "strings.asciiSpace" = some 0 := by kernel_rfl

theorem tab_below {w w' : World} {name : String} {g : Nat} {k : IntKind} {zs : List Int} (hg : Tryd.prog.globalNamed name = some g) (h : Lib.TabIs Tryd.prog w name k zs) (hb : Below w.heap.size w w') : Lib.TabIs Tryd.prog w' name k zs := by
  unfold Lib.TabIs World.var? at h ⊢
  rw [hg] at h ⊢
  simp only [Option.bind_some] at h ⊢
  have hlt : g < w.heap.size := by
    rcases Nat.lt_or_ge g w.heap.size with h' | h'
    · exact h'
    · rw [Array.getElem?_eq_none h'] at h; cases h
  rw [hb.block g hlt]
  exact h

/-- the two tables of the library's that telling a fault reads -/
def Tabs (w : World) : Prop := Lib.TabIs Tryd.prog w "internal/strconv.uint64pow10" .u64 Lib.pow10Tab ∧ Lib.TabIs Tryd.prog w "strings.asciiSpace" .u8 Lib.asciiSpaceTab
theorem Tabs.below {w w' : World} (h : Tabs w) (hb : Below w.heap.size w w') : Tabs w' := ⟨tab_below gPow h.1 hb, tab_below gSpace h.2 hb⟩

abbrev allWords : ByteArray := ⟨#[111, 107, 32, 97, 114, 103, 117, 109, 101, 110, 116, 32, 108, 105, 109, 105, 116, 32, 102, 111, 114, 109, 32, 110, 97, 109, 101, 32, 116, 121, 112, 101, 32, 112, 97, 116, 116, 101, 114, 110, 32, 114, 117, 108, 101, 32, 111, 114, 100, 101, 114, 32, 99, 108, 97, 115, 104, 32, 110, 111, 110, 101, 32, 102, 117, 101, 108, 32, 112, 114, 111, 111, 102, 32, 115, 116, 97, 116, 101]⟩
theorem fields_words : (Lib.fields allWords.data.toList).map (fun l => (⟨l.toArray⟩ : ByteArray)) = words := by kernel_rfl
theorem ascii_words : ∀ (j : Nat) b, allWords.data.toList[j]? = some b → b.toNat < 128 := by
  have h : (allWords.data.toList.all fun b => decide (b.toNat < 128)) = true := by kernel_rfl
  intro j b hj
  simpa using List.all_eq_true.1 h b (List.mem_of_getElem? hj)

theorem fields_c (w : World) (hT : Tabs w) : Calls Tryd.prog 27 #[.string allWords] w fun e w' =>
    e = .returned (.slice (some ⟨w.heap.size, 0, none⟩) 14 14) ∧ w' = w.alloc (.cells (words.map Value.string).toArray 9) := by
  have h := Tryd.strings_Fields allWords w (by decide) ascii_words hT.2
  have hl : (Lib.fields allWords.data.toList).length = 14 := by
    have := congrArg List.length fields_words
    simpa [words] using this
  have hm : (Lib.fields allWords.data.toList).map (fun l => Value.string (⟨l.toArray⟩ : ByteArray)) = words.map Value.string := by
    rw [← fields_words, List.map_map]; rfl
  rw [hl, hm] at h
  exact h

set_option maxRecDepth 100000 in
set_option maxHeartbeats 2000000 in
theorem name_any (n : Int) (w : World) (hT : Tabs w) : Calls Tryd.prog 13 #[.int .i64 n] w fun e w' => e = .returned (.string (nameOf n)) ∧ Below w.heap.size w w' := by
  have fc := hide (fields_c w hT)
  clear hT
  by_cases h : 0 ≤ n ∧ n < 14
  · have hk : (w.alloc (.cells (words.map Value.string).toArray 9)).cell? ⟨w.heap.size, n.toNat, none⟩ = some (.string (nameOf n)) := by
      rw [blk_cell (blk_new w _)]
      rcases upto14 n h with rfl | rfl | rfl | rfl | rfl | rfl | rfl | rfl | rfl | rfl | rfl | rfl | rfl | rfl <;> rfl
    obtain ⟨h0, h1⟩ := h
    generalize (words.map Value.string).toArray = cs at *
    generalize nameOf n = nm at *
    go_enter Tryd.func13, Tryd.ntmps13
    go_wp2_with fail
    refine fc.out.mono ?_
    rintro e w' ⟨rfl, rfl⟩
    go_wp2_with fail
    go_ret
    exact ⟨rfl, (Below.refl _ w).alloc (Nat.le_refl _) _⟩
  · have e : nameOf n = ⟨#[63]⟩ := by unfold nameOf; rw [if_neg h]
    rw [e]
    clear e
    generalize (words.map Value.string).toArray = cs at *
    by_cases h0 : n < 0
    · go_enter Tryd.func13, Tryd.ntmps13
      go_wp2_with fail
      refine fc.out.mono ?_
      rintro e w' ⟨rfl, rfl⟩
      go_wp2_with fail
      go_ret
      exact ⟨rfl, (Below.refl _ w).alloc (Nat.le_refl _) _⟩
    · have h1 : 14 ≤ n := by omega
      clear h
      go_enter Tryd.func13, Tryd.ntmps13
      go_wp2_with fail
      refine fc.out.mono ?_
      rintro e w' ⟨rfl, rfl⟩
      go_wp2_with fail
      go_ret
      exact ⟨rfl, (Below.refl _ w).alloc (Nat.le_refl _) _⟩
end Go.Proofs.YtcabkkfehdcagaaDoor
