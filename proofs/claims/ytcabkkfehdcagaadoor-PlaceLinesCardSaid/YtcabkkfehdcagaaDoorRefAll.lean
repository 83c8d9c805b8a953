/- The reference's All: a text's lines, byte by byte. -/
import Derived.Test.YtcabkkfehdcagaaDoorRef
import Derived.Test.YtcabkkfehdcagaaDoorFns
import Derived.Deep.RegionHeld3
import Derived.Deep.AppendLies
namespace Go.Proofs.YtcabkkfehdcagaaDoor
open Go.RowKit
set_option linter.unusedVariables false
set_option linter.unusedSimpArgs false
theorem info9 : (Tryd.prog.info? 9).map (fun i => (i.zero, i.size, i.bytes)) = some (some (.string ⟨#[]⟩), 1, 16) := by kernel_rfl

theorem idx_at (l : List UInt8) (n : Nat) (h : ∀ i : Nat, i < n → l[i]? ≠ some 10) (h2 : l[n]? = some 10) : Lib.indexByte l 10 = n := by
  rcases Int.lt_or_le (Lib.indexByte l 10) 0 with hneg | hpos
  · exact absurd h2 (idx_none l hneg n)
  · obtain ⟨m, hm⟩ := Int.eq_ofNat_of_zero_le hpos
    obtain ⟨j1, j2⟩ := idx_some l m hm
    rcases Nat.lt_trichotomy m n with h3 | h3 | h3
    · exact absurd j2 (h m h3)
    · rw [hm, h3]
    · exact absurd h2 (j1 n h3)
theorem idx_no (l : List UInt8) (h : ∀ i : Nat, l[i]? ≠ some 10) : Lib.indexByte l 10 < 0 := by
  rcases Int.lt_or_le (Lib.indexByte l 10) 0 with hneg | hpos
  · exact hneg
  · obtain ⟨m, hm⟩ := Int.eq_ofNat_of_zero_le hpos
    exact absurd (idx_some l m hm).2 (h m)

/-- what has been gone through: the lines ahead, where the one at hand begins -/
def AllAt (s : ByteArray) (k : Nat) (xs : List ByteArray) (t : ByteArray) : Prop :=
  ∃ b f, b ≤ k ∧ s.size < b + f ∧ t = s.extract b k ∧ (∀ i : Nat, i < k - b → (s.data.toList.drop b)[i]? ≠ some 10) ∧ xs ++ (linesOf s f b).map (·.2) = (linesOf s (s.size + 1) 0).map (·.2)

theorem allAt_start (s : ByteArray) : AllAt s 0 [] ⟨#[]⟩ := ⟨0, s.size + 1, Nat.le_refl _, by omega, by
  apply ByteArray.ext; simp, fun i hi => by omega, rfl⟩
theorem drop_at (s : ByteArray) (b k : Nat) (hb : b ≤ k) (hk : k < s.size) : (s.data.toList.drop b)[k - b]? = some s[k] := by
  rw [List.getElem?_drop, show b + (k - b) = k by omega, List.getElem?_eq_getElem (by simpa using hk)]
  rfl
theorem allAt_line (s : ByteArray) (k : Nat) (xs : List ByteArray) (t : ByteArray) (h : AllAt s k xs t) (hk : k < s.size) (h10 : s[k] = 10) : AllAt s (k + 1) (xs ++ [t]) ⟨#[]⟩ := by
  obtain ⟨b, f, h1, h2, rfl, h4, h5⟩ := h
  obtain ⟨f, rfl⟩ : ∃ g, f = g + 1 := ⟨f - 1, by omega⟩
  have hi := idx_at (s.data.toList.drop b) (k - b) h4 (by rw [drop_at s b k h1 hk, h10])
  refine ⟨k + 1, f, Nat.le_refl _, by omega, by apply ByteArray.ext; simp, fun i hi => by omega, ?_⟩
  rw [← h5]
  simp only [linesOf]
  rw [hi, if_neg (by omega)]
  simp only [Int.toNat_natCast, List.map_cons, List.append_assoc, List.cons_append, List.nil_append]
  rw [show b + (k - b) = k by omega, show b + (k - b + 1) = k + 1 by omega]
theorem ext_more (s : ByteArray) (b k : Nat) (hb : b ≤ k) (hk : k < s.size) : s.extract b k ++ s.extract k (k + 1) = s.extract b (k + 1) := by
  rw [ByteArray.extract_append_extract]
  congr 1
  · omega
  · omega
theorem allAt_more (s : ByteArray) (k : Nat) (xs : List ByteArray) (t : ByteArray) (h : AllAt s k xs t) (hk : k < s.size) (h10 : s[k] ≠ 10) : AllAt s (k + 1) xs (t ++ s.extract k (k + 1)) := by
  obtain ⟨b, f, h1, h2, rfl, h4, h5⟩ := h
  refine ⟨b, f, by omega, h2, ext_more s b k h1 hk, fun i hi => ?_, h5⟩
  by_cases he : i < k - b
  · exact h4 i he
  · have : i = k - b := by omega
    subst this
    rw [drop_at s b k h1 hk]
    intro e
    exact h10 (by injection e)
theorem allAt_end (s : ByteArray) (xs : List ByteArray) (t : ByteArray) (h : AllAt s s.size xs t) : xs ++ [t] = (linesOf s (s.size + 1) 0).map (·.2) := by
  obtain ⟨b, f, h1, h2, rfl, h4, h5⟩ := h
  obtain ⟨f, rfl⟩ : ∃ g, f = g + 1 := ⟨f - 1, by omega⟩
  have hi := idx_no (s.data.toList.drop b) (fun i => by
    by_cases he : i < s.size - b
    · exact h4 i he
    · rw [List.getElem?_eq_none (by simp; omega)]
      intro e; cases e)
  rw [← h5]
  simp only [linesOf]
  rw [if_pos hi]
  rfl

theorem own_cell {w : World} {base : Nat} {g n cap : Nat} {xs : List Value} (h : w.ownsRow base 9 1 (.slice (some ⟨g, 0, none⟩) n cap) n xs) (i : Nat) (v : Value) (hv : xs[i]? = some v) : w.cell? ⟨g, i, none⟩ = some v := by
  have hadd : (⟨g, 0, none⟩ : Addr).add i = ⟨g, i, none⟩ := by unfold Addr.add; split <;> simp_all
  have := h.cells (g := g) rfl i v hv
  rwa [hadd] at this
theorem own_free {w : World} {base : Nat} {g n cap : Nat} {xs : List Value} (h : w.ownsRow base 9 1 (.slice (some ⟨g, 0, none⟩) n cap) n xs) (i : Nat) : w.frozen? ⟨g, i, none⟩ = false := by
  obtain ⟨h1, h2⟩ := h
  rcases h2 with ⟨h', _⟩ | ⟨g', cap', cur, h', hb, hg, _⟩
  · simp at h'
  · simp only [Value.slice.injEq, Option.some.injEq, Addr.mk.injEq, and_true, true_and] at h'
    obtain ⟨rfl, rfl⟩ := h'
    exact blk_free hg i

set_option maxRecDepth 100000 in
set_option maxHeartbeats 4000000 in
theorem refAll_any (s : ByteArray) (hs : s.size ≤ 1000000) (w : World) :
    Calls Tryd.prog 15 #[.string s] w fun e w' => (∃ g cap, e = .returned (.slice (some ⟨g, 0, none⟩) (linesOf s (s.size + 1) 0).length cap) ∧
      w'.ownsRow w.heap.size 9 1 (.slice (some ⟨g, 0, none⟩) (linesOf s (s.size + 1) 0).length cap) (linesOf s (s.size + 1) 0).length ((linesOf s (s.size + 1) 0).map fun p => .string p.2)) ∧ Below w.heap.size w w' := by
  obtain ⟨i0, hi0, hz0, hz1, hz2⟩ := info_parts info9
  have st := hide (allAt_start s)
  go_enter Tryd.func15, Tryd.ntmps15
  go_wp2_with fail
  go_loopw [3, 4] (fun l i wr => ∃ (k g cap : Nat) (t : ByteArray) (xs : List ByteArray), l = .slice (some ⟨g, 0, none⟩) (xs.length + 1) cap ∧ k ≤ s.size ∧ xs.length ≤ k ∧ t.size ≤ k ∧ i = .int .i64 k ∧ Hid (AllAt s k xs t) ∧
      Hid (wr.ownsRow w.heap.size 9 1 (.slice (some ⟨g, 0, none⟩) (xs.length + 1) cap) (xs.length + 1) ((xs ++ [t]).map .string)) ∧ Hid (Below w.heap.size w wr)) (fun _ i _ => s.size - (intOf i).toNat)
  case atStart => exact ⟨0, w.heap.size, 1, ⟨#[]⟩, [], rfl, Nat.zero_le _, Nat.le_refl _, Nat.le_refl _, rfl, st.out, World.ownsRow_lit w #[.string ⟨#[]⟩] 1 (Nat.le_refl _) (by decide) rfl, (Below.refl _ w).alloc (Nat.le_refl _) _⟩
  case round =>
    obtain ⟨k, g, cap, t, xs, rfl, hk, hnk, htk, rfl, hall, hown, hB⟩ := hrel
    have hbs := hB.out.size
    by_cases hlt : k < s.size
    · have hltI : (k : Int) < (s.size : Int) := by omega
      by_cases h10 : s[k] = 10
      · have hb10 : ((s[k].toNat : Int) == 10) = true := by rw [h10]; rfl
        have hnext := hide (allAt_line s k xs t hall.out hlt h10)
        have HN := hide (World.news_of_block (cs := #[.string ⟨#[]⟩]) (t := 9) (fr := (0, 0)) (heap_alloc_new wr (Obj.cells #[.string ⟨#[]⟩] 9)))
        clear h10 hall
        go_wp2_with (at_builtin; refine wpList_append_own _ rfl _ _ 37 rfl w.heap.size 9 i0 (.string ⟨#[]⟩) 1 16 Tryd.underlying37 hi0 hz0 hz1 hz2 rfl (by decide) _ (xs.length + 1) ((xs ++ [t]).map .string) rfl (hown.out.alloc _) ⟨wr.heap.size, 0, none⟩ 1 1 [.string ⟨#[]⟩] rfl rfl HN.out (by simp [Value.oneCell']) (by simp [maxLen]; omega) (by omega) (by simp; omega) ?_; intro v' w1 hown1 hgrow _)
        have RB : Hid (Below w.heap.size w w1) := (hB.out.alloc hbs _).grown hgrow (by simp; omega) (fun r e => (hown.out.lt _ e).1)
        obtain ⟨g2, cap2, rfl⟩ : ∃ g2 cap2, v' = .slice (some ⟨g2, 0, none⟩) (xs.length + 1 + 1) cap2 := by
          rcases hown1.2 with ⟨_, h0⟩ | ⟨g2, cap2, cur, rfl, _⟩
          · omega
          · exact ⟨g2, cap2, rfl⟩
        have RO : Hid (w1.ownsRow w.heap.size 9 1 (.slice (some ⟨g2, 0, none⟩) ((xs ++ [t]).length + 1) cap2) ((xs ++ [t]).length + 1) ((xs ++ [t] ++ [(⟨#[]⟩ : ByteArray)]).map .string)) := by
          unfold Hid
          rw [List.map_append (l₁ := xs ++ [t]), List.length_append]
          exact hown1
        clear hown1 hgrow HN
        go_wp2_with fail
        go_roundw
        case rel => exact ⟨k + 1, g2, cap2, ⟨#[]⟩, xs ++ [t], by rw [List.length_append]; rfl, by omega, by rw [List.length_append]; simp; omega, Nat.zero_le _, by go_num, hnext, RO, RB⟩
        case measure => simp [intOf]; omega
      · have hb10 : ((s[k].toNat : Int) == 10) = false := by rw [byte_beq s[k] 10 10 rfl]; simpa using h10
        have hnext := hide (allAt_more s k xs t hall.out hlt h10)
        have hc := own_cell hown.out xs.length (.string t) (by simp)
        have hf := own_free hown.out xs.length
        have hst := hown.out.stored xs.length (.string (t ++ s.extract k (k + 1)))
        have RO : Hid ((wr.setCell ⟨g, xs.length, none⟩ (.string (t ++ s.extract k (k + 1)))).drew.ownsRow w.heap.size 9 1 (.slice (some ⟨g, 0, none⟩) (xs.length + 1) cap) (xs.length + 1) ((xs ++ [t ++ s.extract k (k + 1)]).map .string)) := by
          have h1 := hst.1
          rw [List.map_append, List.set_append_right _ _ (by simp)] at h1
          rw [List.map_append]
          have h2 : (wr.setCell ⟨g, xs.length, none⟩ (.string (t ++ s.extract k (k + 1)))).ownsRow w.heap.size 9 1 (.slice (some ⟨g, 0, none⟩) (xs.length + 1) cap) (xs.length + 1) (xs.map .string ++ [t ++ s.extract k (k + 1)].map .string) := by simpa using h1
          exact h2.drew
        have RB : Hid (Below w.heap.size w (wr.setCell ⟨g, xs.length, none⟩ (.string (t ++ s.extract k (k + 1)))).drew) := (hB.out.setCell (p := ⟨g, xs.length, none⟩) (hown.out.lt g rfl).1 _).drew
        have hsz : (s.extract k (k + 1)).size = 1 := by simp; omega
        clear h10 hall hst
        go_wp2_with fail
        go_region
        go_wp2_with fail
        go_roundw
        case rel => exact ⟨k + 1, g, cap, _, xs, rfl, by omega, by omega, by rw [ByteArray.size_append]; omega, by go_num, hnext, RO, RB⟩
        case measure => simp [intOf]; omega
    · have hks : k = s.size := by omega
      subst hks
      have he := allAt_end s xs t hall.out
      have hl : (linesOf s (s.size + 1) 0).length = xs.length + 1 := by
        have := congrArg List.length he
        simpa using this.symm
      have hm : (linesOf s (s.size + 1) 0).map (fun p => Value.string p.2) = (xs ++ [t]).map .string := by rw [he, List.map_map]; rfl
      have HM := hide hm
      have HL := hide hl
      clear hall he hm hl
      go_wp2_with fail
      go_ret
      rw [HM.out, HL.out]
      exact ⟨⟨g, cap, rfl, hown.out⟩, hB.out⟩
end Go.Proofs.YtcabkkfehdcagaaDoor
