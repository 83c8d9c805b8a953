/- lex.Split's closure 'cut': one token more. -/
import Derived.Test.YtboeeaekhijboaaRef
import Derived.Deep.RegionHeld3
import Derived.Deep.AppendLies
import Derived.StillTactics
import Derived.Deep.RegionLaw
namespace Go.Proofs.Ytboeeaekhijboaa
set_option linter.unusedVariables false
open Go.RowKit

theorem info75 : (Try.prog.info? 75).map (fun i => (i.zero, i.size, i.bytes)) = some (some (.agg #[.int .i64 0, .string ⟨#[]⟩, .int .i64 0]), 3, 32) := by kernel_rfl

/-- Of the blocks that were there only those in S may have changed; the streams are as they were. -/
structure Chg (S : Nat → Prop) (w w' : World) : Prop where
  os : w'.os = w.os
  tape : w'.tape = w.tape
  output : w'.output = w.output
  size : w.heap.size ≤ w'.heap.size
  block : ∀ k, k < w.heap.size → ¬ S k → w'.heap[k]? = w.heap[k]?

theorem Chg.refl (S : Nat → Prop) (w : World) : Chg S w w := ⟨rfl, rfl, rfl, Nat.le_refl _, fun _ _ _ => rfl⟩
theorem Chg.trans {S : Nat → Prop} {a b c : World} (h : Chg S a b) (k : Chg S b c) : Chg S a c :=
  ⟨k.os.trans h.os, k.tape.trans h.tape, k.output.trans h.output, Nat.le_trans h.size k.size,
    fun i hi hn => (k.block i (Nat.lt_of_lt_of_le hi h.size) hn).trans (h.block i hi hn)⟩
theorem Chg.mono {S T : Nat → Prop} {a b : World} (h : Chg S a b) (hs : ∀ k, k < a.heap.size → S k → T k) : Chg T a b :=
  ⟨h.os, h.tape, h.output, h.size, fun i hi hn => h.block i hi (fun hS => hn (hs i hi hS))⟩
theorem Chg.drew {S : Nat → Prop} {a b : World} (h : Chg S a b) : Chg S a b.drew := ⟨h.os, h.tape, h.output, h.size, h.block⟩
theorem Chg.alloc {S : Nat → Prop} {a b : World} (h : Chg S a b) (o : Obj) : Chg S a (b.alloc o) :=
  h.trans ⟨rfl, rfl, rfl, by simp, fun i hi _ => Below.heap_alloc _ _ _ hi⟩
theorem Chg.setCell {S : Nat → Prop} {a b : World} (h : Chg S a b) {p : Addr} (hp : S p.block ∨ a.heap.size ≤ p.block) (v : Value) : Chg S a (b.setCell p v) :=
  ⟨h.os, h.tape, h.output, by have := h.size; simp only [World.setCell, Array.size_modify]; exact this, fun i hi hn => by
    rw [Below.heap_setCell _ _ _ _ (by rintro rfl; rcases hp with hp | hp; exact hn hp; omega)]; exact h.block i hi hn⟩
theorem Chg.grown {S : Nat → Prop} {a b c : World} {row : Option Nat} (h : Chg S a b) (hg : b.grownBy c row) (hr : ∀ r, row = some r → S r ∨ a.heap.size ≤ r) : Chg S a c :=
  ⟨hg.os.trans h.os, hg.tape.trans h.tape, hg.output.trans h.output, Nat.le_trans h.size hg.size, fun i hi hn =>
    (hg.block i (Nat.lt_of_lt_of_le hi h.size) (fun e => by rcases hr i e.symm with h1 | h1; exact hn h1; omega)).trans (h.block i hi hn)⟩
theorem Chg.below {S : Nat → Prop} {a b : World} (h : Chg S a b) {B : Nat} (hB : B ≤ a.heap.size) (hs : ∀ k, S k → B ≤ k) : Below B a b :=
  ⟨h.os, h.tape, h.output, h.size, fun i hi => h.block i (by omega) (fun hS => by have := hs i hS; omega)⟩
theorem Chg.of_below {a b : World} {B : Nat} (h : Below B a b) : Chg (fun k => B ≤ k) a b :=
  ⟨h.os, h.tape, h.output, h.size, fun i _ hn => h.block i (by omega)⟩

theorem owns_setCell {w : World} {base : Nat} {e : TypeId} {size : Nat} {v : Value} {n : Nat} {xs : List Value} (h : w.ownsRow base e size v n xs) {b i : Nat} (hb : b < base) (u : Value) :
    (w.setCell ⟨b, i, none⟩ u).ownsRow base e size v n xs := ownsRow_setCell_below h (a := ⟨b, i, none⟩) hb u

theorem cut_end (Bl Bs Ba base : Nat) (s : ByteArray) (k n m : Nat) (kind : Int) (v : Value) (xs : List Value) (w w1 : World) (gg cap : Nat)
    (hbase : base ≤ w.heap.size) (l1 : Bl < base) (l2 : Bs < base) (l3 : Ba < base) (d1 : Bl ≠ Ba) (d2 : Bl ≠ Bs) (d3 : Bs ≠ Ba)
    (al : v.ownBlock ≠ some Bl) (asx : v.ownBlock ≠ some Bs) (aa : v.ownBlock ≠ some Ba) (hlB : Bl < w.heap.size) (hlS : Bs < w.heap.size) (hlA : Ba < w.heap.size)
    (hown : w.ownsRow base 75 3 v m xs) (hown1 : w1.ownsRow base 75 3 (.slice (some ⟨gg, 0, none⟩) (m + 1) cap) (m + 1) (xs ++ [.int .i64 kind, .string (s.extract k (k + n)), .int .i64 k]))
    (hgrow : ((w.alloc (.cells #[.int .i64 kind, .string (s.extract k (k + n)), .int .i64 k] 75)).drew).grownBy w1 v.ownBlock)
    (hk1 : w1.heap[Bl]? = some (.cells #[v] 101)) (hk2 : w1.heap[Bs]? = some (.cells #[.string s] 9)) (hk3 : w1.heap[Ba]? = some (.cells #[.int .i64 k] 3)) :
    ((w1.setCell ⟨Bl, 0, none⟩ (.slice (some ⟨gg, 0, none⟩) (m + 1) cap)).setCell ⟨Ba, 0, none⟩ (.int .i64 ((k : Int) + (n : Int)))).heap[Bl]? = some (.cells #[.slice (some ⟨gg, 0, none⟩) (m + 1) cap] 101) ∧
    ((w1.setCell ⟨Bl, 0, none⟩ (.slice (some ⟨gg, 0, none⟩) (m + 1) cap)).setCell ⟨Ba, 0, none⟩ (.int .i64 ((k : Int) + (n : Int)))).heap[Bs]? = some (.cells #[.string s] 9) ∧
    ((w1.setCell ⟨Bl, 0, none⟩ (.slice (some ⟨gg, 0, none⟩) (m + 1) cap)).setCell ⟨Ba, 0, none⟩ (.int .i64 ((k : Int) + (n : Int)))).heap[Ba]? = some (.cells #[.int .i64 ((k : Int) + (n : Int))] 3) ∧
    ((w1.setCell ⟨Bl, 0, none⟩ (.slice (some ⟨gg, 0, none⟩) (m + 1) cap)).setCell ⟨Ba, 0, none⟩ (.int .i64 ((k : Int) + (n : Int)))).ownsRow base 75 3 (.slice (some ⟨gg, 0, none⟩) (m + 1) cap) (m + 1) (xs ++ [.int .i64 kind, .string (s.extract k (k + n)), .int .i64 k]) ∧
    Chg (fun b => b = Bl ∨ b = Ba ∨ base ≤ b) w ((w1.setCell ⟨Bl, 0, none⟩ (.slice (some ⟨gg, 0, none⟩) (m + 1) cap)).setCell ⟨Ba, 0, none⟩ (.int .i64 ((k : Int) + (n : Int)))) := by
  refine ⟨blk_other (blk_set hk1 0 _) d1 _ _, blk_other (blk_other hk2 (Ne.symm d2) _ _) d3 _ _, blk_set (blk_other hk3 (Ne.symm d1) _ _) 0 _, owns_setCell (owns_setCell hown1 l1 _) l3 _, ?_⟩
  have c1 : Chg (fun b => b = Bl ∨ b = Ba ∨ base ≤ b) w ((w.alloc (.cells #[.int .i64 kind, .string (s.extract k (k + n)), .int .i64 k] 75)).drew) := ((Chg.refl _ w).alloc _).drew
  have c2 := c1.grown hgrow (fun r e => Or.inl (Or.inr (Or.inr (hown.lt _ e).1)))
  exact (c2.setCell (p := ⟨Bl, 0, none⟩) (Or.inl (Or.inl rfl)) _).setCell (p := ⟨Ba, 0, none⟩) (Or.inl (Or.inr (Or.inl rfl))) _

set_option maxRecDepth 100000 in
set_option maxHeartbeats 3200000 in
theorem cut_any (Bl Bs Ba base : Nat) (s : ByteArray) (hs : s.size ≤ 1000000) (k n m : Nat) (kind : Int) (v : Value) (xs : List Value) (w : World)
    (hl : w.heap[Bl]? = some (.cells #[v] 101)) (hS : w.heap[Bs]? = some (.cells #[.string s] 9)) (ha : w.heap[Ba]? = some (.cells #[.int .i64 k] 3))
    (hown : w.ownsRow base 75 3 v m xs) (hbase : base ≤ w.heap.size) (l1 : Bl < base) (l2 : Bs < base) (l3 : Ba < base) (d1 : Bl ≠ Ba) (d2 : Bl ≠ Bs) (d3 : Bs ≠ Ba)
    (hm : m ≤ 1000000) (hkn : k + n ≤ s.size) :
    Calls Try.prog 85 #[.int .i64 kind, .int .i64 n, .pointer (some ⟨Bl, 0, none⟩), .pointer (some ⟨Bs, 0, none⟩), .pointer (some ⟨Ba, 0, none⟩)] w fun e w' =>
      e = .returned (.tuple #[]) ∧ ∃ g cap, w'.heap[Bl]? = some (.cells #[.slice (some ⟨g, 0, none⟩) (m + 1) cap] 101) ∧ w'.heap[Bs]? = some (.cells #[.string s] 9) ∧ w'.heap[Ba]? = some (.cells #[.int .i64 (k + n)] 3) ∧
        w'.ownsRow base 75 3 (.slice (some ⟨g, 0, none⟩) (m + 1) cap) (m + 1) (xs ++ [.int .i64 kind, .string (s.extract k (k + n)), .int .i64 k]) ∧
        Chg (fun b => b = Bl ∨ b = Ba ∨ base ≤ b) w w' := by
  obtain ⟨i0, hi0, hz0, hz1, hz2⟩ := info_parts info75
  have hlB := blk_lt hl
  have hlS := blk_lt hS
  have hlA := blk_lt ha
  have hK := blk_cell hl 0
  have fK := blk_free hl 0
  have hT := blk_cell hS 0
  have hA := blk_cell ha 0
  have fA := blk_free ha 0
  have al : v.ownBlock ≠ some Bl := fun e => by have := (hown.lt _ e).1; omega
  have asx : v.ownBlock ≠ some Bs := fun e => by have := (hown.lt _ e).1; omega
  have aa : v.ownBlock ≠ some Ba := fun e => by have := (hown.lt _ e).1; omega
  have e1 : IntKind.i64.wrap ((k : Int) + (n : Int)) = (k : Int) + (n : Int) := IntWalk.i64_in _ (by omega)
  have e2 : (0 : Int) ≤ (k : Int) + (n : Int) := by omega
  have e3 : ((k : Int) + (n : Int)).toNat = k + n := by omega
  have e4 : (k : Int) + (n : Int) ≤ (s.size : Int) := by omega
  have e5 : (k : Int) ≤ (k : Int) + (n : Int) := by omega
  have e6 : (0 : Int) ≤ (k : Int) := by omega
  go_enter Try.func85, Try.ntmps85
  go_wp2_with fail
  refine wp_region_held_drew (S := fun w' => w'.cell? ⟨Bs, 0, none⟩ = some (.string s) ∧ w'.cell? ⟨Ba, 0, none⟩ = some (.int .i64 k)) (by kernel_rfl) ⟨by simpa using hT, by simpa using hA⟩ (fun hHeld => ?_)
  refine wpAnyH_take (i := 1) (v := .int .i64 kind) rfl (by kernel_rfl) (by kernel_rfl) (by kernel_rfl) (fun _ _ _ h => h) (Or.inl ⟨by rfl, ?_⟩) hHeld ?_
  · intro w hSw
    obtain ⟨hSw1, hSw2⟩ := hSw
    go_simp
  try simp only [Act.put, List.setIfInBounds_toArray]
  refine wpAnyH_take (i := 2) (v := .string s) rfl (by kernel_rfl) (by kernel_rfl) (by kernel_rfl) (fun _ _ _ h => h) (Or.inl ⟨by rfl, ?_⟩) hHeld ?_
  · intro w hSw
    obtain ⟨hSw1, hSw2⟩ := hSw
    go_simp
  try simp only [Act.put]
  refine wpAnyH_take (i := 3) (v := .int .i64 (k : Int)) rfl (by kernel_rfl) (by kernel_rfl) (by kernel_rfl) (fun _ _ _ h => h) (Or.inl ⟨by rfl, ?_⟩) hHeld ?_
  · intro w hSw
    obtain ⟨hSw1, hSw2⟩ := hSw
    go_simp
  try simp only [Act.put]
  refine wpAnyH_take (i := 4) (v := .int .i64 (k : Int)) rfl (by kernel_rfl) (by kernel_rfl) (by kernel_rfl) (fun _ _ _ h => h) (Or.inl ⟨by rfl, ?_⟩) hHeld ?_
  · intro w hSw
    obtain ⟨hSw1, hSw2⟩ := hSw
    go_simp
  try simp only [Act.put]
  refine wpAnyH_take (i := 5) (v := .int .i64 (n : Int)) rfl (by kernel_rfl) (by kernel_rfl) (by kernel_rfl) (fun _ _ _ h => h) (Or.inl ⟨by rfl, ?_⟩) hHeld ?_
  · intro w hSw
    obtain ⟨hSw1, hSw2⟩ := hSw
    go_simp
  try simp only [Act.put]
  refine wpAnyH_take (i := 6) (v := .int .i64 ((k : Int) + (n : Int))) rfl (by kernel_rfl) (by kernel_rfl) (by kernel_rfl) (fun _ _ _ h => h) (Or.inl ⟨by rfl, ?_⟩) hHeld ?_
  · intro w hSw
    obtain ⟨hSw1, hSw2⟩ := hSw
    go_simp
  try simp only [Act.put]
  refine wpAnyH_take (i := 7) (v := .string (s.extract k (k + n))) rfl (by kernel_rfl) (by kernel_rfl) (by kernel_rfl) (fun _ _ _ h => h) (Or.inl ⟨by rfl, ?_⟩) hHeld ?_
  · intro w hSw
    obtain ⟨hSw1, hSw2⟩ := hSw
    go_simp
  try simp only [Act.put]
  refine wpAnyH_take (i := 8) (v := .int .i64 (k : Int)) rfl (by kernel_rfl) (by kernel_rfl) (by kernel_rfl) (fun _ _ _ h => h) (Or.inl ⟨by rfl, ?_⟩) hHeld ?_
  · intro w hSw
    obtain ⟨hSw1, hSw2⟩ := hSw
    go_simp
  try simp only [Act.put]
  refine wpAnyH_take (i := 9) (v := .agg #[.int .i64 kind, .string (s.extract k (k + n)), .int .i64 (k : Int)]) rfl (by kernel_rfl) (by kernel_rfl) (by kernel_rfl) (fun _ _ _ h => h) (Or.inl ⟨by rfl, ?_⟩) hHeld ?_
  · intro w hSw
    obtain ⟨hSw1, hSw2⟩ := hSw
    go_simp
  try simp only [Act.put]
  refine wpAnyH_ready (rs := [0, 10]) (by kernel_rfl) (by simp) ?_
  refine AllReadyH.cons (i := 0) (o := _) rfl (fun K hK => ?_) ?_
  · go_simp
    refine hK.out _ _ ⟨by simpa using hT, by simpa using hA⟩ (fun hHeld => ?_)
    clear hK K
    try simp only [Act.put, List.setIfInBounds_toArray, List.set_cons_zero, List.set_cons_succ]
    refine wpAnyH_ready (rs := [10]) (by kernel_rfl) (by simp) ?_
    refine AllReadyH.cons (i := 10) (o := _) rfl (fun K hK => ?_) ?_
    rotate_left
    · exact AllReadyH.nil
    go_simp
    refine hK.out _ _ ⟨?_, ?_⟩ (fun hHeld => ?_)
    · simp [World.cell?_alloc_some, hT]
    · simp [World.cell?_alloc_some, hA]
    clear hK K
    try simp only [Act.put, List.setIfInBounds_toArray, List.set_cons_zero, List.set_cons_succ]
    refine wpAnyH_ready (rs := [11]) (by kernel_rfl) (by simp) ?_
    refine AllReadyH.cons (i := 11) (o := _) rfl (fun K hK => ?_) ?_
    rotate_left
    · exact AllReadyH.nil
    refine step_append_lies _ (by rfl) _ _ _ (by rfl) base 75 i0 _ 3 32 Try.underlying101 hi0 hz0 hz1 hz2 rfl (by omega) v m xs (by rfl) ((hown.alloc _).drew) ⟨w.heap.size, 0, none⟩ 1 1 [.int .i64 kind, .string (s.extract k (k + n)), .int .i64 k] (by rfl) (by rfl) (World.news_of_block (cs := #[.int .i64 kind, .string (s.extract k (k + n)), .int .i64 k]) (t := 75) (fr := (0, 0)) (heap_alloc_new w _)) (by simp [Value.oneCell']) (by omega) (by simp [maxLen]; omega) (by omega) (by simp; omega) (w.heap.size + 1) (by simp) ?_
    intro gg cap w1 hown1 hgrow hat hlt
    have hk1 : w1.heap[Bl]? = some (.cells #[v] 101) := (hgrow.block Bl (by simp; omega) (Ne.symm al)).trans ((Below.heap_alloc _ _ _ hlB).trans hl)
    have c1 := blk_cell hk1 0
    have f1 := blk_free hk1 0
    have hk2 : w1.heap[Bs]? = some (.cells #[.string s] 9) := (hgrow.block Bs (by simp; omega) (Ne.symm asx)).trans ((Below.heap_alloc _ _ _ hlS).trans hS)
    have c2 := blk_cell hk2 0
    have hk3 : w1.heap[Ba]? = some (.cells #[.int .i64 k] 3) := (hgrow.block Ba (by simp; omega) (Ne.symm aa)).trans ((Below.heap_alloc _ _ _ hlA).trans ha)
    have c3 := blk_cell hk3 0
    have f3 := blk_free hk3 0
    refine hK.out _ _ ⟨by simpa using c2, by simpa using c3⟩ (fun hHeld => ?_)
    clear hK K
    try simp only [Act.put, List.setIfInBounds_toArray]
    refine wpAnyH_ready (rs := [12]) (by kernel_rfl) (by simp) ?_
    refine AllReadyH.cons (i := 12) (o := _) rfl (fun K hK => ?_) ?_
    rotate_left
    · exact AllReadyH.nil
    go_simp
    refine hK.out _ _ ⟨?_, ?_⟩ (fun hHeld => ?_)
    · rw [World.cell?_setCell_other _ ⟨Bl, 0, none⟩ ⟨Bs, 0, none⟩ _ (by simp)]
      simpa using c2
    · rw [World.cell?_setCell_other _ ⟨Bl, 0, none⟩ ⟨Ba, 0, none⟩ _ (by simp)]
      simpa using c3
    clear hK K
    try simp only [Act.put, List.setIfInBounds_toArray, List.set_cons_zero, List.set_cons_succ]
    refine wpAnyH_done (by kernel_rfl) ?_ _
    have q1 := blk_set hk1 0 (.slice (some ⟨gg, 0, none⟩) (m + 1) cap)
    have q2 := blk_other hk2 (Ne.symm d2) 0 (.slice (some ⟨gg, 0, none⟩) (m + 1) cap)
    have q3 := blk_other hk3 (Ne.symm d1) 0 (.slice (some ⟨gg, 0, none⟩) (m + 1) cap)
    have fin := cut_end Bl Bs Ba base s k n m kind v xs w w1 gg cap hbase l1 l2 l3 d1 d2 d3 al asx aa hlB hlS hlA hown hown1 hgrow hk1 hk2 hk3
    have Fin := hide fin
    have c4 := blk_cell q3 0
    have f4 := blk_free q3 0
    clear q1 q2 q3 fin hHeld hk1 hk2 hk3 c1 c2 c3 f1 f3 hown1 hgrow hat hlt
    generalize hW2 : (w1.setCell ⟨Bl, 0, none⟩ (.slice (some ⟨gg, 0, none⟩) (m + 1) cap)) = W2 at *
    clear hW2
    go_wp2_with fail
    go_end0
    exact ⟨rfl, gg, cap, Fin.out⟩
  refine AllReadyH.cons (i := 10) (o := _) rfl (fun K hK => ?_) ?_
  rotate_left
  · exact AllReadyH.nil
  go_simp
  refine hK.out _ _ ⟨?_, ?_⟩ (fun hHeld => ?_)
  · simp [World.cell?_alloc_some, hT]
  · simp [World.cell?_alloc_some, hA]
  clear hK K
  try simp only [Act.put, List.setIfInBounds_toArray, List.set_cons_zero, List.set_cons_succ]
  refine wpAnyH_ready (rs := [0]) (by kernel_rfl) (by simp) ?_
  refine AllReadyH.cons (i := 0) (o := _) rfl (fun K hK => ?_) ?_
  rotate_left
  · exact AllReadyH.nil
  go_simp
  refine hK.out _ _ ⟨?_, ?_⟩ (fun hHeld => ?_)
  · simp [World.cell?_alloc_some, hT]
  · simp [World.cell?_alloc_some, hA]
  clear hK K
  try simp only [Act.put, List.setIfInBounds_toArray, List.set_cons_zero, List.set_cons_succ]
  refine wpAnyH_ready (rs := [11]) (by kernel_rfl) (by simp) ?_
  refine AllReadyH.cons (i := 11) (o := _) rfl (fun K hK => ?_) ?_
  rotate_left
  · exact AllReadyH.nil
  refine step_append_lies _ (by rfl) _ _ _ (by rfl) base 75 i0 _ 3 32 Try.underlying101 hi0 hz0 hz1 hz2 rfl (by omega) v m xs (by rfl) ((hown.alloc _).drew) ⟨w.heap.size, 0, none⟩ 1 1 [.int .i64 kind, .string (s.extract k (k + n)), .int .i64 k] (by rfl) (by rfl) (World.news_of_block (cs := #[.int .i64 kind, .string (s.extract k (k + n)), .int .i64 k]) (t := 75) (fr := (0, 0)) (heap_alloc_new w _)) (by simp [Value.oneCell']) (by omega) (by simp [maxLen]; omega) (by omega) (by simp; omega) (w.heap.size + 1) (by simp) ?_
  intro gg cap w1 hown1 hgrow hat hlt
  have hk1 : w1.heap[Bl]? = some (.cells #[v] 101) := (hgrow.block Bl (by simp; omega) (Ne.symm al)).trans ((Below.heap_alloc _ _ _ hlB).trans hl)
  have c1 := blk_cell hk1 0
  have f1 := blk_free hk1 0
  have hk2 : w1.heap[Bs]? = some (.cells #[.string s] 9) := (hgrow.block Bs (by simp; omega) (Ne.symm asx)).trans ((Below.heap_alloc _ _ _ hlS).trans hS)
  have c2 := blk_cell hk2 0
  have hk3 : w1.heap[Ba]? = some (.cells #[.int .i64 k] 3) := (hgrow.block Ba (by simp; omega) (Ne.symm aa)).trans ((Below.heap_alloc _ _ _ hlA).trans ha)
  have c3 := blk_cell hk3 0
  have f3 := blk_free hk3 0
  refine hK.out _ _ ⟨by simpa using c2, by simpa using c3⟩ (fun hHeld => ?_)
  clear hK K
  try simp only [Act.put, List.setIfInBounds_toArray]
  refine wpAnyH_ready (rs := [12]) (by kernel_rfl) (by simp) ?_
  refine AllReadyH.cons (i := 12) (o := _) rfl (fun K hK => ?_) ?_
  rotate_left
  · exact AllReadyH.nil
  go_simp
  refine hK.out _ _ ⟨?_, ?_⟩ (fun hHeld => ?_)
  · rw [World.cell?_setCell_other _ ⟨Bl, 0, none⟩ ⟨Bs, 0, none⟩ _ (by simp)]
    simpa using c2
  · rw [World.cell?_setCell_other _ ⟨Bl, 0, none⟩ ⟨Ba, 0, none⟩ _ (by simp)]
    simpa using c3
  clear hK K
  try simp only [Act.put, List.setIfInBounds_toArray, List.set_cons_zero, List.set_cons_succ]
  refine wpAnyH_done (by kernel_rfl) ?_ _
  have q1 := blk_set hk1 0 (.slice (some ⟨gg, 0, none⟩) (m + 1) cap)
  have q2 := blk_other hk2 (Ne.symm d2) 0 (.slice (some ⟨gg, 0, none⟩) (m + 1) cap)
  have q3 := blk_other hk3 (Ne.symm d1) 0 (.slice (some ⟨gg, 0, none⟩) (m + 1) cap)
  have fin := cut_end Bl Bs Ba base s k n m kind v xs w w1 gg cap hbase l1 l2 l3 d1 d2 d3 al asx aa hlB hlS hlA hown hown1 hgrow hk1 hk2 hk3
  have Fin := hide fin
  have c4 := blk_cell q3 0
  have f4 := blk_free q3 0
  clear q1 q2 q3 fin hHeld hk1 hk2 hk3 c1 c2 c3 f1 f3 hown1 hgrow hat hlt
  generalize hW2 : (w1.setCell ⟨Bl, 0, none⟩ (.slice (some ⟨gg, 0, none⟩) (m + 1) cap)) = W2 at *
  clear hW2
  go_wp2_with fail
  go_end0
  exact ⟨rfl, gg, cap, Fin.out⟩
end Go.Proofs.Ytboeeaekhijboaa
