/- The walk of PlaceFirst. -/
import Derived.Test.YtcabkkfehdcagaaDoorFirst
import Derived.Deep.AppendLies
import Derived.Deep.OwnRows
namespace Go.Proofs.YtcabkkfehdcagaaDoor
open Go.RowKit
set_option linter.unusedVariables false
set_option linter.unusedSimpArgs false

theorem info33 : (Tryd.prog.info? 33).map (fun i => (i.zero, i.size, i.bytes)) = some (some (.agg #[.int .i64 0, .int .i64 0, .int .i64 0, .string ⟨#[]⟩]), 4, 40) := by kernel_rfl
def rowOf (fs : List F4) : List Value := fs.flatMap fun f => [.int .i64 f.1, .int .i64 f.2.1, .int .i64 f.2.2.1, .string f.2.2.2]
theorem rowOf_snoc (fs : List F4) (f : F4) : rowOf (fs ++ [f]) = rowOf fs ++ [.int .i64 f.1, .int .i64 f.2.1, .int .i64 f.2.2.1, .string f.2.2.2] := by simp [rowOf]
theorem rowOf_get (fs : List F4) (i : Nat) (h : i < fs.length) : (rowOf fs)[i * 4]? = some (.int .i64 fs[i].1) ∧ (rowOf fs)[i * 4 + 1]? = some (.int .i64 fs[i].2.1) ∧ (rowOf fs)[i * 4 + 2]? = some (.int .i64 fs[i].2.2.1) ∧ (rowOf fs)[i * 4 + 3]? = some (.string fs[i].2.2.2) := by
  induction fs generalizing i with
  | nil => simp at h
  | cons t r ih =>
    have e : rowOf (t :: r) = [.int .i64 t.1, .int .i64 t.2.1, .int .i64 t.2.2.1, .string t.2.2.2] ++ rowOf r := rfl
    cases i with
    | zero => rw [e]; simp
    | succ i =>
      have h' : i < r.length := by simpa using h
      obtain ⟨a, b, c, d⟩ := ih i h'
      have l4 : ([.int .i64 t.1, .int .i64 t.2.1, .int .i64 t.2.2.1, .string t.2.2.2] : List Value).length = 4 := rfl
      rw [e, List.getElem?_append_right (by rw [l4]; omega), List.getElem?_append_right (by rw [l4]; omega), List.getElem?_append_right (by rw [l4]; omega), List.getElem?_append_right (by rw [l4]; omega)]
      rw [l4, show (i + 1) * 4 - 4 = i * 4 by omega, show (i + 1) * 4 + 1 - 4 = i * 4 + 1 by omega, show (i + 1) * 4 + 2 - 4 = i * 4 + 2 by omega, show (i + 1) * 4 + 3 - 4 = i * 4 + 3 by omega]
      simpa using ⟨a, b, c, d⟩
theorem fRow_of (w : World) (base : Nat) (g cap : Nat) (fs : List F4) (h : w.ownsRow base 33 4 (.slice (some ⟨g, 0, none⟩) fs.length cap) fs.length (rowOf fs)) : FRow w g 0 fs := by
  intro i hi
  obtain ⟨a, b, c, d⟩ := rowOf_get fs i hi
  have hc := h.cells (g := g) rfl
  have ha := hc _ _ a
  have hb := hc _ _ b
  have hcc := hc _ _ c
  have hd := hc _ _ d
  have hadd : ∀ j, (⟨g, 0, none⟩ : Addr).add j = ⟨g, j, none⟩ := by
    intro j; unfold Addr.add; split <;> simp_all
  rw [hadd] at ha hb hcc hd
  simp only [Nat.zero_add]
  exact ⟨ha, hb, hcc, hd⟩

theorem own_below {w w' : World} {base : Nat} {e : TypeId} {size : Nat} {v : Value} {n : Nat} {xs : List Value} (h : w.ownsRow base e size v n xs) (hb : Below w.heap.size w w') : w'.ownsRow base e size v n xs := by
  refine h.kept (row := none) ⟨hb.os, hb.tape, hb.output, hb.size, fun k hk _ => hb.block k hk⟩ ?_
  cases hv : v.ownBlock with
  | none => exact .inl rfl
  | some b => exact .inr (by simp)

def atV (o : Option Nat) : Int := match o with | none => -1 | some j => (j : Int)
/-- the place that the law keeps: the last of those that were ahead of the one before -/
def AtK (fs : List F4) (k : Nat) (o : Option Nat) : Prop :=
  match o with
  | none => (fs.take k).foldl bestStep none = none
  | some j => j < k ∧ ∃ f, fs[j]? = some f ∧ (fs.take k).foldl bestStep none = some f

theorem atK_skip {fs : List F4} {k : Nat} {o : Option Nat} {f : F4} (h : AtK fs k o) (hf : (fs.take (k + 1)).foldl bestStep none = bestStep ((fs.take k).foldl bestStep none) f) (hz : f.1 = 0) : AtK fs (k + 1) o := by
  have e : bestStep ((fs.take k).foldl bestStep none) f = (fs.take k).foldl bestStep none := by unfold bestStep; rw [if_pos hz]
  rw [e] at hf
  cases o with
  | none => show _ = none; rw [hf]; exact h
  | some j =>
    obtain ⟨a, x, b, c⟩ := h
    exact ⟨by omega, x, b, hf.trans c⟩
theorem atK_first {fs : List F4} {k : Nat} {f : F4} (h : AtK fs k none) (hf : (fs.take (k + 1)).foldl bestStep none = bestStep ((fs.take k).foldl bestStep none) f) (hk : fs[k]? = some f) (hz : ¬ f.1 = 0) : AtK fs (k + 1) (some k) := by
  have h' : (fs.take k).foldl bestStep none = none := h
  refine ⟨by omega, f, hk, ?_⟩
  rw [hf, h']; unfold bestStep; rw [if_neg hz]
theorem atK_ahead {fs : List F4} {k j : Nat} {f g : F4} (h : AtK fs k (some j)) (hj : fs[j]? = some g) (hf : (fs.take (k + 1)).foldl bestStep none = bestStep ((fs.take k).foldl bestStep none) f) (hk : fs[k]? = some f) (hz : ¬ f.1 = 0) (hb : cmp2 f.2.1 f.2.2.1 g.2.1 g.2.2.1 < 0) : AtK fs (k + 1) (some k) := by
  obtain ⟨a, x, b, c⟩ := h
  have ex : x = g := by rw [hj] at b; exact (Option.some.inj b).symm
  subst ex
  refine ⟨by omega, f, hk, ?_⟩
  rw [hf, c]; unfold bestStep before; rw [if_neg hz]; simp only []; rw [if_pos (by simpa using hb)]
theorem atK_behind {fs : List F4} {k j : Nat} {f g : F4} (h : AtK fs k (some j)) (hj : fs[j]? = some g) (hf : (fs.take (k + 1)).foldl bestStep none = bestStep ((fs.take k).foldl bestStep none) f) (hz : ¬ f.1 = 0) (hb : ¬ cmp2 f.2.1 f.2.2.1 g.2.1 g.2.2.1 < 0) : AtK fs (k + 1) (some j) := by
  obtain ⟨a, x, b, c⟩ := h
  have ex : x = g := by rw [hj] at b; exact (Option.some.inj b).symm
  subst ex
  refine ⟨by omega, x, hj, ?_⟩
  rw [hf, c]; unfold bestStep before; rw [if_neg hz]; simp only []; rw [if_neg (by simpa using hb)]
set_option maxRecDepth 100000 in
set_option maxHeartbeats 4000000 in
theorem first_none (w : World) :
    Calls Tryd.prog 25 #[.slice none 0 0] w fun e w' => e = .returned (.tuple #[.agg #[.int .i64 0, .int .i64 0, .int .i64 0, .string ⟨#[]⟩], .bool false]) ∧ Below w.heap.size w w' := by
  go_enter Tryd.func25, Tryd.ntmps25
  go_wp2_with fail
  have a0 : ((w.alloc (Obj.cells #[.int .i64 0, .int .i64 0, .int .i64 0, .string ⟨#[]⟩] 33)).alloc (Obj.cells #[.int .i64 0, .int .i64 0, .int .i64 0, .string ⟨#[]⟩] 33)).heap[w.heap.size]? = some (Obj.cells #[.int .i64 0, .int .i64 0, .int .i64 0, .string ⟨#[]⟩] 33) := blk_alloc (blk_new w _)
  have a1 := blk_new (w.alloc (Obj.cells #[.int .i64 0, .int .i64 0, .int .i64 0, .string ⟨#[]⟩] 33)) (Obj.cells #[.int .i64 0, .int .i64 0, .int .i64 0, .string ⟨#[]⟩] 33)
  simp only [World.size_alloc] at a1
  have hB0 : Below w.heap.size w ((w.alloc (Obj.cells #[.int .i64 0, .int .i64 0, .int .i64 0, .string ⟨#[]⟩] 33)).alloc (Obj.cells #[.int .i64 0, .int .i64 0, .int .i64 0, .string ⟨#[]⟩] 33)) := ((Below.refl _ w).alloc (Nat.le_refl _) _).alloc (by simp) _
  generalize ((w.alloc (Obj.cells #[.int .i64 0, .int .i64 0, .int .i64 0, .string ⟨#[]⟩] 33)).alloc (Obj.cells #[.int .i64 0, .int .i64 0, .int .i64 0, .string ⟨#[]⟩] 33)) = W0 at *
  have A0 := hide a0
  have A1 := hide a1
  have HB := hide hB0
  obtain ⟨A, hA⟩ : ∃ A, w.heap.size = A := ⟨_, rfl⟩
  have HA := hide hA
  rw [hA] at A0 A1 ⊢
  clear a0 a1 hB0 hA
  have d0 := blk_cell A1.out 0
  have d1 := blk_cell A1.out 1
  have d2 := blk_cell A1.out 2
  have d3 := blk_cell A1.out 3
  have g0 := blk_free A0.out 0
  have g1 := blk_free A0.out 1
  have g2 := blk_free A0.out 2
  have g3 := blk_free A0.out 3
  have e0 := blk_cell A0.out 0
  have e1 := blk_cell A0.out 1
  have e2 := blk_cell A0.out 2
  have e3 := blk_cell A0.out 3
  have S1 := blk_set (blk_set (blk_set (blk_set A0.out 0 (.int .i64 0)) 1 (.int .i64 0)) 2 (.int .i64 0)) 3 (.string ⟨#[]⟩)
  have s0 := blk_cell S1 0
  have s1 := blk_cell S1 1
  have s2 := blk_cell S1 2
  have s3 := blk_cell S1 3
  have SB := hide ((((HB.out.setCell (p := ⟨A, 0, none⟩) (by rw [HA.out]; exact Nat.le_refl _) (.int .i64 0)).setCell (p := ⟨A, 1, none⟩) (by rw [HA.out]; exact Nat.le_refl _) (.int .i64 0)).setCell (p := ⟨A, 2, none⟩) (by rw [HA.out]; exact Nat.le_refl _) (.int .i64 0)).setCell (p := ⟨A, 3, none⟩) (by rw [HA.out]; exact Nat.le_refl _) (.string ⟨#[]⟩))
  clear S1
  refine wp_loop_rounds 1 ?_
  rw [rounds_succ]
  go_wp2_with fail
  refine bodyPost_ret (v := .tuple #[.agg #[.int .i64 0, .int .i64 0, .int .i64 0, .string ⟨#[]⟩], .bool false]) (by simp [results, Tryd.results25, go_sem, s0, s1, s2, s3]) rfl ⟨rfl, SB.out⟩
set_option maxRecDepth 100000 in
set_option maxHeartbeats 8000000 in
theorem pfirst_some (g off cap len : Nat) (fs : List F4) (h2 : len ≤ cap) (h3 : cap ≤ 9223372036854775807) (hfs : fs.length = min len 50) (w : World) (hg : g < w.heap.size) (hr : FRow w g off fs) (hT : Tabs w) :
    Calls Tryd.prog 7 #[.slice (some ⟨g, off, none⟩) len cap] w fun e w' => e = .returned (.bool true) ∧ Below w.heap.size w w' := by
  obtain ⟨i0, hi0, hz0, hz1, hz2⟩ := info_parts info33
  have hL : min (len : Int) 50 = (fs.length : Int) := by omega
  have hLc : (fs.length : Int) ≤ (cap : Int) := by omega
  have hL50 : fs.length ≤ 50 := by omega
  clear hfs
  have HR := hide hr
  have HT := hide hT
  clear hr hT
  go_enter Tryd.func7, Tryd.ntmps7
  go_wp2_with fail
  go_loopw [3, 4, 5] (fun m a i wr => ∃ (k : Nat) (v : Value) (o : Option Nat), m = v ∧ k ≤ fs.length ∧ Hid ((k = 0 ∧ v = .slice none 0 0) ∨ ∃ gg cp, v = .slice (some ⟨gg, 0, none⟩) k cp) ∧ i = .int .i64 k ∧ a = .int .i64 (atV o) ∧ Hid (AtK fs k o) ∧
      Hid (wr.ownsRow w.heap.size 33 4 v k (rowOf (fs.take k))) ∧ Hid (Below w.heap.size w wr)) (fun _ _ i _ => fs.length - (intOf i).toNat)
  case atStart => exact ⟨0, .slice none 0 0, none, rfl, Nat.zero_le _, Or.inl ⟨rfl, rfl⟩, rfl, rfl, rfl, World.ownsRow_nil _ _ _ _, Below.refl _ _⟩
  case round =>
    obtain ⟨k, v, o, rfl, hk, hsh, rfl, rfl, hat, hown, hB⟩ := hrel
    have hbs := hB.out.size
    by_cases hlt : k < fs.length
    · have hltI : (k : Int) < (fs.length : Int) := by omega
      obtain ⟨r0, r1, r2, r3⟩ := HR.out k hlt
      have A0 := (hB.out.cell (p := ⟨g, off + k * 4, none⟩) hg).trans r0
      have A1 := (hB.out.cell (p := ⟨g, off + k * 4 + 1, none⟩) hg).trans r1
      have A2 := (hB.out.cell (p := ⟨g, off + k * 4 + 2, none⟩) hg).trans r2
      have A3 := (hB.out.cell (p := ⟨g, off + k * 4 + 3, none⟩) hg).trans r3
      have hgr : g < wr.heap.size := by omega
      have hnx : rowOf (fs.take (k + 1)) = rowOf (fs.take k) ++ [.int .i64 fs[k].1, .int .i64 fs[k].2.1, .int .i64 fs[k].2.2.1, .string fs[k].2.2.2] := by
        rw [List.take_succ_eq_append_getElem hlt, rowOf_snoc]
      have HNX := hide hnx
      have hfold : (fs.take (k + 1)).foldl bestStep none = bestStep ((fs.take k).foldl bestStep none) fs[k] := by
        rw [List.take_succ_eq_append_getElem hlt, List.foldl_append]; rfl
      have HF := hide hfold
      have hfk : fs[k]? = some fs[k] := List.getElem?_eq_getElem hlt
      have HFK := hide hfk
      clear hnx hfold hfk
      generalize fs[k] = f at *
      obtain ⟨f0, f1, f2, f3⟩ := f
      dsimp only at A0 A1 A2 A3 r0 r1 r2 r3
      go_wp2_with fail
      go_region_held3 (fun w' => w'.cell? ⟨g, off + k * 4, none⟩ = some (.int .i64 f0) ∧ w'.cell? ⟨g, off + k * 4 + 1, none⟩ = some (.int .i64 f1) ∧ w'.cell? ⟨g, off + k * 4 + 2, none⟩ = some (.int .i64 f2) ∧ w'.cell? ⟨g, off + k * 4 + 3, none⟩ = some (.string f3))
        (go_keep)
        (first
          | (go_at_call 12; refine (to_any _ _ _).mono ?_; rintro e w3 ⟨rfl, hv2⟩; have hown3 := hide (own_below hown.out.drew hv2); have Bw : Below w.heap.size w w3 := hB.out.drew.trans (hv2.mono (by show w.heap.size ≤ wr.heap.size; omega)); have DA0 := (Bw.cell (p := ⟨g, off + k * 4, none⟩) hg).trans r0; have DA1 := (Bw.cell (p := ⟨g, off + k * 4 + 1, none⟩) hg).trans r1; have DA2 := (Bw.cell (p := ⟨g, off + k * 4 + 2, none⟩) hg).trans r2; have DA3 := (Bw.cell (p := ⟨g, off + k * 4 + 3, none⟩) hg).trans r3; have hw3 := Bw.size; have HB3 := hide Bw; clear Bw hv2)
          | (refine step_append_lies _ (by rfl) _ _ _ (by rfl) w.heap.size 33 i0 _ 4 40 Tryd.underlying57 hi0 hz0 hz1 hz2 rfl (by omega) _ k (rowOf (fs.take k)) (by rfl) (hown3.out.alloc _) ⟨w3.heap.size, 0, none⟩ 1 1 [.int .i64 f0, .int .i64 f1, .int .i64 f2, .string f3] (by rfl) (by rfl) (World.news_of_block (cs := #[.int .i64 f0, .int .i64 f1, .int .i64 f2, .string f3]) (t := 33) (fr := (0, 0)) (heap_alloc_new w3 _)) (by simp [Value.oneCell']) (by omega) (by simp [maxLen]; omega) (by omega) (by simp; omega) (w3.heap.size + 1) (by simp) ?_; intro gg cap2 w4 hown4 hgrow hgat hglt; have Bw : Below w.heap.size w w4 := (HB3.out.alloc hw3 _).grown hgrow (by simp; omega) (fun r e => (hown3.out.lt _ e).1); have DA0 := (Bw.cell (p := ⟨g, off + k * 4, none⟩) hg).trans r0; have DA1 := (Bw.cell (p := ⟨g, off + k * 4 + 1, none⟩) hg).trans r1; have DA2 := (Bw.cell (p := ⟨g, off + k * 4 + 2, none⟩) hg).trans r2; have DA3 := (Bw.cell (p := ⟨g, off + k * 4 + 3, none⟩) hg).trans r3; have HB4 := hide Bw; have HO4 := hide hown4; clear Bw hown4 hgrow hgat hglt))
      by_cases hz : f0 = 0
      · subst hz
        go_wp2_with fail
        refine wp_region_held_drew (S := (fun w' => w'.cell? ⟨g, off + k * 4, none⟩ = some (.int .i64 0) ∧ w'.cell? ⟨g, off + k * 4 + 1, none⟩ = some (.int .i64 f1) ∧ w'.cell? ⟨g, off + k * 4 + 2, none⟩ = some (.int .i64 f2) ∧ w'.cell? ⟨g, off + k * 4 + 3, none⟩ = some (.string f3))) (by kernel_rfl) (by go_keep) (fun hHeld => ?_)
        first
          | (refine wpAnyH_take (i := 0) (v := undef) rfl (by kernel_rfl) (by kernel_rfl) (by kernel_rfl) (fun _ _ _ h => h) (Or.inr ⟨by rfl, rfl⟩) (by assumption) ?_)
          | (refine wpAnyH_take (i := 0) (v := ?_) rfl (by kernel_rfl) (by kernel_rfl) (by kernel_rfl) (fun _ _ _ h => h) (Or.inl ⟨by rfl, ?_⟩) (by assumption) ?_
             rotate_left
             (intro w hSw
              (try dsimp only at hSw)
              (go_simp <;> with_reducible rfl)))
        try simp only [Act.put, List.getElem_toArray, List.getElem_cons_zero, List.getElem_cons_succ, List.setIfInBounds_toArray, List.set_cons_zero, List.set_cons_succ]
        first
          | (refine wpAnyH_take (i := 1) (v := undef) rfl (by kernel_rfl) (by kernel_rfl) (by kernel_rfl) (fun _ _ _ h => h) (Or.inr ⟨by rfl, rfl⟩) (by assumption) ?_)
          | (refine wpAnyH_take (i := 1) (v := ?_) rfl (by kernel_rfl) (by kernel_rfl) (by kernel_rfl) (fun _ _ _ h => h) (Or.inl ⟨by rfl, ?_⟩) (by assumption) ?_
             rotate_left
             (intro w hSw
              (try dsimp only at hSw)
              (go_simp <;> with_reducible rfl)))
        try simp only [Act.put, List.getElem_toArray, List.getElem_cons_zero, List.getElem_cons_succ, List.setIfInBounds_toArray, List.set_cons_zero, List.set_cons_succ]
        first
          | (refine wpAnyH_take (i := 2) (v := undef) rfl (by kernel_rfl) (by kernel_rfl) (by kernel_rfl) (fun _ _ _ h => h) (Or.inr ⟨by rfl, rfl⟩) (by assumption) ?_)
          | (refine wpAnyH_take (i := 2) (v := ?_) rfl (by kernel_rfl) (by kernel_rfl) (by kernel_rfl) (fun _ _ _ h => h) (Or.inl ⟨by rfl, ?_⟩) (by assumption) ?_
             rotate_left
             (intro w hSw
              (try dsimp only at hSw)
              (go_simp <;> with_reducible rfl)))
        try simp only [Act.put, List.getElem_toArray, List.getElem_cons_zero, List.getElem_cons_succ, List.setIfInBounds_toArray, List.set_cons_zero, List.set_cons_succ]
        first
          | (refine wpAnyH_take (i := 3) (v := undef) rfl (by kernel_rfl) (by kernel_rfl) (by kernel_rfl) (fun _ _ _ h => h) (Or.inr ⟨by rfl, rfl⟩) (by assumption) ?_)
          | (refine wpAnyH_take (i := 3) (v := ?_) rfl (by kernel_rfl) (by kernel_rfl) (by kernel_rfl) (fun _ _ _ h => h) (Or.inl ⟨by rfl, ?_⟩) (by assumption) ?_
             rotate_left
             (intro w hSw
              (try dsimp only at hSw)
              (go_simp <;> with_reducible rfl)))
        try simp only [Act.put, List.getElem_toArray, List.getElem_cons_zero, List.getElem_cons_succ, List.setIfInBounds_toArray, List.set_cons_zero, List.set_cons_succ]
        first
          | (refine wpAnyH_take (i := 4) (v := undef) rfl (by kernel_rfl) (by kernel_rfl) (by kernel_rfl) (fun _ _ _ h => h) (Or.inr ⟨by rfl, rfl⟩) (by assumption) ?_)
          | (refine wpAnyH_take (i := 4) (v := ?_) rfl (by kernel_rfl) (by kernel_rfl) (by kernel_rfl) (fun _ _ _ h => h) (Or.inl ⟨by rfl, ?_⟩) (by assumption) ?_
             rotate_left
             (intro w hSw
              (try dsimp only at hSw)
              (go_simp <;> with_reducible rfl)))
        try simp only [Act.put, List.getElem_toArray, List.getElem_cons_zero, List.getElem_cons_succ, List.setIfInBounds_toArray, List.set_cons_zero, List.set_cons_succ]
        first
          | (refine wpAnyH_take (i := 5) (v := undef) rfl (by kernel_rfl) (by kernel_rfl) (by kernel_rfl) (fun _ _ _ h => h) (Or.inr ⟨by rfl, rfl⟩) (by assumption) ?_)
          | (refine wpAnyH_take (i := 5) (v := ?_) rfl (by kernel_rfl) (by kernel_rfl) (by kernel_rfl) (fun _ _ _ h => h) (Or.inl ⟨by rfl, ?_⟩) (by assumption) ?_
             rotate_left
             (intro w hSw
              (try dsimp only at hSw)
              (go_simp <;> with_reducible rfl)))
        try simp only [Act.put, List.getElem_toArray, List.getElem_cons_zero, List.getElem_cons_succ, List.setIfInBounds_toArray, List.set_cons_zero, List.set_cons_succ]
        first
          | (refine wpAnyH_take (i := 6) (v := undef) rfl (by kernel_rfl) (by kernel_rfl) (by kernel_rfl) (fun _ _ _ h => h) (Or.inr ⟨by rfl, rfl⟩) (by assumption) ?_)
          | (refine wpAnyH_take (i := 6) (v := ?_) rfl (by kernel_rfl) (by kernel_rfl) (by kernel_rfl) (fun _ _ _ h => h) (Or.inl ⟨by rfl, ?_⟩) (by assumption) ?_
             rotate_left
             (intro w hSw
              (try dsimp only at hSw)
              (go_simp <;> with_reducible rfl)))
        try simp only [Act.put, List.getElem_toArray, List.getElem_cons_zero, List.getElem_cons_succ, List.setIfInBounds_toArray, List.set_cons_zero, List.set_cons_succ]
        refine wpAnyH_take (i := 7) (v := undef) rfl (by kernel_rfl) (by kernel_rfl) (by kernel_rfl) (fun _ _ _ h => h) (Or.inr ⟨by rfl, rfl⟩) (by assumption) ?_
        try simp only [Act.put, List.getElem_toArray, List.getElem_cons_zero, List.getElem_cons_succ, List.setIfInBounds_toArray, List.set_cons_zero, List.set_cons_succ]
        refine wpAnyH_take (i := 8) (v := undef) rfl (by kernel_rfl) (by kernel_rfl) (by kernel_rfl) (fun _ _ _ h => h) (Or.inr ⟨by rfl, rfl⟩) (by assumption) ?_
        try simp only [Act.put, List.getElem_toArray, List.getElem_cons_zero, List.getElem_cons_succ, List.setIfInBounds_toArray, List.set_cons_zero, List.set_cons_succ]
        refine wpAnyH_take (i := 9) (v := undef) rfl (by kernel_rfl) (by kernel_rfl) (by kernel_rfl) (fun _ _ _ h => h) (Or.inr ⟨by rfl, rfl⟩) (by assumption) ?_
        try simp only [Act.put, List.getElem_toArray, List.getElem_cons_zero, List.getElem_cons_succ, List.setIfInBounds_toArray, List.set_cons_zero, List.set_cons_succ]
        refine wpAnyH_take (i := 10) (v := undef) rfl (by kernel_rfl) (by kernel_rfl) (by kernel_rfl) (fun _ _ _ h => h) (Or.inr ⟨by rfl, rfl⟩) (by assumption) ?_
        try simp only [Act.put, List.getElem_toArray, List.getElem_cons_zero, List.getElem_cons_succ, List.setIfInBounds_toArray, List.set_cons_zero, List.set_cons_succ]
        refine wpAnyH_take (i := 11) (v := undef) rfl (by kernel_rfl) (by kernel_rfl) (by kernel_rfl) (fun _ _ _ h => h) (Or.inr ⟨by rfl, rfl⟩) (by assumption) ?_
        try simp only [Act.put, List.getElem_toArray, List.getElem_cons_zero, List.getElem_cons_succ, List.setIfInBounds_toArray, List.set_cons_zero, List.set_cons_succ]
        refine wpAnyH_take (i := 12) (v := undef) rfl (by kernel_rfl) (by kernel_rfl) (by kernel_rfl) (fun _ _ _ h => h) (Or.inr ⟨by rfl, rfl⟩) (by assumption) ?_
        try simp only [Act.put, List.getElem_toArray, List.getElem_cons_zero, List.getElem_cons_succ, List.setIfInBounds_toArray, List.set_cons_zero, List.set_cons_succ]
        refine wpAnyH_take (i := 13) (v := undef) rfl (by kernel_rfl) (by kernel_rfl) (by kernel_rfl) (fun _ _ _ h => h) (Or.inr ⟨by rfl, rfl⟩) (by assumption) ?_
        try simp only [Act.put, List.getElem_toArray, List.getElem_cons_zero, List.getElem_cons_succ, List.setIfInBounds_toArray, List.set_cons_zero, List.set_cons_succ]
        refine wpAnyH_take (i := 14) (v := undef) rfl (by kernel_rfl) (by kernel_rfl) (by kernel_rfl) (fun _ _ _ h => h) (Or.inr ⟨by rfl, rfl⟩) (by assumption) ?_
        try simp only [Act.put, List.getElem_toArray, List.getElem_cons_zero, List.getElem_cons_succ, List.setIfInBounds_toArray, List.set_cons_zero, List.set_cons_succ]
        refine wpAnyH_take (i := 15) (v := undef) rfl (by kernel_rfl) (by kernel_rfl) (by kernel_rfl) (fun _ _ _ h => h) (Or.inr ⟨by rfl, rfl⟩) (by assumption) ?_
        try simp only [Act.put, List.getElem_toArray, List.getElem_cons_zero, List.getElem_cons_succ, List.setIfInBounds_toArray, List.set_cons_zero, List.set_cons_succ]
        refine wpAnyH_take (i := 16) (v := undef) rfl (by kernel_rfl) (by kernel_rfl) (by kernel_rfl) (fun _ _ _ h => h) (Or.inr ⟨by rfl, rfl⟩) (by assumption) ?_
        try simp only [Act.put, List.getElem_toArray, List.getElem_cons_zero, List.getElem_cons_succ, List.setIfInBounds_toArray, List.set_cons_zero, List.set_cons_succ]
        refine wpAnyH_take (i := 17) (v := undef) rfl (by kernel_rfl) (by kernel_rfl) (by kernel_rfl) (fun _ _ _ h => h) (Or.inr ⟨by rfl, rfl⟩) (by assumption) ?_
        try simp only [Act.put, List.getElem_toArray, List.getElem_cons_zero, List.getElem_cons_succ, List.setIfInBounds_toArray, List.set_cons_zero, List.set_cons_succ]
        refine wpAnyH_take (i := 18) (v := undef) rfl (by kernel_rfl) (by kernel_rfl) (by kernel_rfl) (fun _ _ _ h => h) (Or.inr ⟨by rfl, rfl⟩) (by assumption) ?_
        try simp only [Act.put, List.getElem_toArray, List.getElem_cons_zero, List.getElem_cons_succ, List.setIfInBounds_toArray, List.set_cons_zero, List.set_cons_succ]
        refine wpAnyH_take (i := 19) (v := undef) rfl (by kernel_rfl) (by kernel_rfl) (by kernel_rfl) (fun _ _ _ h => h) (Or.inr ⟨by rfl, rfl⟩) (by assumption) ?_
        try simp only [Act.put, List.getElem_toArray, List.getElem_cons_zero, List.getElem_cons_succ, List.setIfInBounds_toArray, List.set_cons_zero, List.set_cons_succ]
        refine wpAnyH_take (i := 20) (v := undef) rfl (by kernel_rfl) (by kernel_rfl) (by kernel_rfl) (fun _ _ _ h => h) (Or.inr ⟨by rfl, rfl⟩) (by assumption) ?_
        try simp only [Act.put, List.getElem_toArray, List.getElem_cons_zero, List.getElem_cons_succ, List.setIfInBounds_toArray, List.set_cons_zero, List.set_cons_succ]
        refine wpAnyH_take (i := 21) (v := undef) rfl (by kernel_rfl) (by kernel_rfl) (by kernel_rfl) (fun _ _ _ h => h) (Or.inr ⟨by rfl, rfl⟩) (by assumption) ?_
        try simp only [Act.put, List.getElem_toArray, List.getElem_cons_zero, List.getElem_cons_succ, List.setIfInBounds_toArray, List.set_cons_zero, List.set_cons_succ]
        refine wpAnyH_take (i := 22) (v := undef) rfl (by kernel_rfl) (by kernel_rfl) (by kernel_rfl) (fun _ _ _ h => h) (Or.inr ⟨by rfl, rfl⟩) (by assumption) ?_
        try simp only [Act.put, List.getElem_toArray, List.getElem_cons_zero, List.getElem_cons_succ, List.setIfInBounds_toArray, List.set_cons_zero, List.set_cons_succ]
        first
          | (refine wpAnyH_take (i := 23) (v := undef) rfl (by kernel_rfl) (by kernel_rfl) (by kernel_rfl) (fun _ _ _ h => h) (Or.inr ⟨by rfl, rfl⟩) (by assumption) ?_)
          | (refine wpAnyH_take (i := 23) (v := ?_) rfl (by kernel_rfl) (by kernel_rfl) (by kernel_rfl) (fun _ _ _ h => h) (Or.inl ⟨by rfl, ?_⟩) (by assumption) ?_
             rotate_left
             (intro w hSw
              (try dsimp only at hSw)
              (go_simp <;> with_reducible rfl)))
        try simp only [Act.put, List.getElem_toArray, List.getElem_cons_zero, List.getElem_cons_succ, List.setIfInBounds_toArray, List.set_cons_zero, List.set_cons_succ]
        refine wpAnyH_done (by kernel_rfl) ?_ _
        go_wp2_with fail
        go_roundw
        case rel => exact ⟨k + 1, .slice (some ⟨gg, 0, none⟩) (k + 1) cap2, o, by rfl, by omega, Or.inr ⟨gg, cap2, rfl⟩, by go_num, by rfl, atK_skip hat.out HF.out rfl, by unfold Hid; rw [HNX.out]; exact HO4.out.drew, HB4.out.drew⟩
        case measure => simp [intOf]; omega
      · cases o with
        | none =>
          have z2 : (f0 != 0) = true := by simp [hz]
          have z1 : (f0 == 0) = false := by simp [hz]
          go_wp2_with fail
          refine wp_region_held_drew (S := (fun w' => w'.cell? ⟨g, off + k * 4, none⟩ = some (.int .i64 f0) ∧ w'.cell? ⟨g, off + k * 4 + 1, none⟩ = some (.int .i64 f1) ∧ w'.cell? ⟨g, off + k * 4 + 2, none⟩ = some (.int .i64 f2) ∧ w'.cell? ⟨g, off + k * 4 + 3, none⟩ = some (.string f3))) (by kernel_rfl) (by go_keep) (fun hHeld => ?_)
          first
            | (refine wpAnyH_take (i := 0) (v := undef) rfl (by kernel_rfl) (by kernel_rfl) (by kernel_rfl) (fun _ _ _ h => h) (Or.inr ⟨by rfl, rfl⟩) (by assumption) ?_)
            | (refine wpAnyH_take (i := 0) (v := ?_) rfl (by kernel_rfl) (by kernel_rfl) (by kernel_rfl) (fun _ _ _ h => h) (Or.inl ⟨by rfl, ?_⟩) (by assumption) ?_
               rotate_left
               (intro w hSw
                (try dsimp only at hSw)
                (go_simp <;> with_reducible rfl)))
          try simp only [Act.put, List.getElem_toArray, List.getElem_cons_zero, List.getElem_cons_succ, List.setIfInBounds_toArray, List.set_cons_zero, List.set_cons_succ]
          first
            | (refine wpAnyH_take (i := 1) (v := undef) rfl (by kernel_rfl) (by kernel_rfl) (by kernel_rfl) (fun _ _ _ h => h) (Or.inr ⟨by rfl, rfl⟩) (by assumption) ?_)
            | (refine wpAnyH_take (i := 1) (v := ?_) rfl (by kernel_rfl) (by kernel_rfl) (by kernel_rfl) (fun _ _ _ h => h) (Or.inl ⟨by rfl, ?_⟩) (by assumption) ?_
               rotate_left
               (intro w hSw
                (try dsimp only at hSw)
                (go_simp <;> with_reducible rfl)))
          try simp only [Act.put, List.getElem_toArray, List.getElem_cons_zero, List.getElem_cons_succ, List.setIfInBounds_toArray, List.set_cons_zero, List.set_cons_succ]
          first
            | (refine wpAnyH_take (i := 2) (v := undef) rfl (by kernel_rfl) (by kernel_rfl) (by kernel_rfl) (fun _ _ _ h => h) (Or.inr ⟨by rfl, rfl⟩) (by assumption) ?_)
            | (refine wpAnyH_take (i := 2) (v := ?_) rfl (by kernel_rfl) (by kernel_rfl) (by kernel_rfl) (fun _ _ _ h => h) (Or.inl ⟨by rfl, ?_⟩) (by assumption) ?_
               rotate_left
               (intro w hSw
                (try dsimp only at hSw)
                (go_simp <;> with_reducible rfl)))
          try simp only [Act.put, List.getElem_toArray, List.getElem_cons_zero, List.getElem_cons_succ, List.setIfInBounds_toArray, List.set_cons_zero, List.set_cons_succ]
          first
            | (refine wpAnyH_take (i := 3) (v := undef) rfl (by kernel_rfl) (by kernel_rfl) (by kernel_rfl) (fun _ _ _ h => h) (Or.inr ⟨by rfl, rfl⟩) (by assumption) ?_)
            | (refine wpAnyH_take (i := 3) (v := ?_) rfl (by kernel_rfl) (by kernel_rfl) (by kernel_rfl) (fun _ _ _ h => h) (Or.inl ⟨by rfl, ?_⟩) (by assumption) ?_
               rotate_left
               (intro w hSw
                (try dsimp only at hSw)
                (go_simp <;> with_reducible rfl)))
          try simp only [Act.put, List.getElem_toArray, List.getElem_cons_zero, List.getElem_cons_succ, List.setIfInBounds_toArray, List.set_cons_zero, List.set_cons_succ]
          first
            | (refine wpAnyH_take (i := 4) (v := undef) rfl (by kernel_rfl) (by kernel_rfl) (by kernel_rfl) (fun _ _ _ h => h) (Or.inr ⟨by rfl, rfl⟩) (by assumption) ?_)
            | (refine wpAnyH_take (i := 4) (v := ?_) rfl (by kernel_rfl) (by kernel_rfl) (by kernel_rfl) (fun _ _ _ h => h) (Or.inl ⟨by rfl, ?_⟩) (by assumption) ?_
               rotate_left
               (intro w hSw
                (try dsimp only at hSw)
                (go_simp <;> with_reducible rfl)))
          try simp only [Act.put, List.getElem_toArray, List.getElem_cons_zero, List.getElem_cons_succ, List.setIfInBounds_toArray, List.set_cons_zero, List.set_cons_succ]
          first
            | (refine wpAnyH_take (i := 5) (v := undef) rfl (by kernel_rfl) (by kernel_rfl) (by kernel_rfl) (fun _ _ _ h => h) (Or.inr ⟨by rfl, rfl⟩) (by assumption) ?_)
            | (refine wpAnyH_take (i := 5) (v := ?_) rfl (by kernel_rfl) (by kernel_rfl) (by kernel_rfl) (fun _ _ _ h => h) (Or.inl ⟨by rfl, ?_⟩) (by assumption) ?_
               rotate_left
               (intro w hSw
                (try dsimp only at hSw)
                (go_simp <;> with_reducible rfl)))
          try simp only [Act.put, List.getElem_toArray, List.getElem_cons_zero, List.getElem_cons_succ, List.setIfInBounds_toArray, List.set_cons_zero, List.set_cons_succ]
          first
            | (refine wpAnyH_take (i := 6) (v := undef) rfl (by kernel_rfl) (by kernel_rfl) (by kernel_rfl) (fun _ _ _ h => h) (Or.inr ⟨by rfl, rfl⟩) (by assumption) ?_)
            | (refine wpAnyH_take (i := 6) (v := ?_) rfl (by kernel_rfl) (by kernel_rfl) (by kernel_rfl) (fun _ _ _ h => h) (Or.inl ⟨by rfl, ?_⟩) (by assumption) ?_
               rotate_left
               (intro w hSw
                (try dsimp only at hSw)
                (go_simp <;> with_reducible rfl)))
          try simp only [Act.put, List.getElem_toArray, List.getElem_cons_zero, List.getElem_cons_succ, List.setIfInBounds_toArray, List.set_cons_zero, List.set_cons_succ]
          first
            | (refine wpAnyH_take (i := 7) (v := undef) rfl (by kernel_rfl) (by kernel_rfl) (by kernel_rfl) (fun _ _ _ h => h) (Or.inr ⟨by rfl, rfl⟩) (by assumption) ?_)
            | (refine wpAnyH_take (i := 7) (v := ?_) rfl (by kernel_rfl) (by kernel_rfl) (by kernel_rfl) (fun _ _ _ h => h) (Or.inl ⟨by rfl, ?_⟩) (by assumption) ?_
               rotate_left
               (intro w hSw
                (try dsimp only at hSw)
                (go_simp <;> with_reducible rfl)))
          try simp only [Act.put, List.getElem_toArray, List.getElem_cons_zero, List.getElem_cons_succ, List.setIfInBounds_toArray, List.set_cons_zero, List.set_cons_succ]
          first
            | (refine wpAnyH_take (i := 8) (v := undef) rfl (by kernel_rfl) (by kernel_rfl) (by kernel_rfl) (fun _ _ _ h => h) (Or.inr ⟨by rfl, rfl⟩) (by assumption) ?_)
            | (refine wpAnyH_take (i := 8) (v := ?_) rfl (by kernel_rfl) (by kernel_rfl) (by kernel_rfl) (fun _ _ _ h => h) (Or.inl ⟨by rfl, ?_⟩) (by assumption) ?_
               rotate_left
               (intro w hSw
                (try dsimp only at hSw)
                (go_simp <;> with_reducible rfl)))
          try simp only [Act.put, List.getElem_toArray, List.getElem_cons_zero, List.getElem_cons_succ, List.setIfInBounds_toArray, List.set_cons_zero, List.set_cons_succ]
          first
            | (refine wpAnyH_take (i := 9) (v := undef) rfl (by kernel_rfl) (by kernel_rfl) (by kernel_rfl) (fun _ _ _ h => h) (Or.inr ⟨by rfl, rfl⟩) (by assumption) ?_)
            | (refine wpAnyH_take (i := 9) (v := ?_) rfl (by kernel_rfl) (by kernel_rfl) (by kernel_rfl) (fun _ _ _ h => h) (Or.inl ⟨by rfl, ?_⟩) (by assumption) ?_
               rotate_left
               (intro w hSw
                (try dsimp only at hSw)
                (go_simp <;> with_reducible rfl)))
          try simp only [Act.put, List.getElem_toArray, List.getElem_cons_zero, List.getElem_cons_succ, List.setIfInBounds_toArray, List.set_cons_zero, List.set_cons_succ]
          refine wpAnyH_take (i := 10) (v := undef) rfl (by kernel_rfl) (by kernel_rfl) (by kernel_rfl) (fun _ _ _ h => h) (Or.inr ⟨by rfl, rfl⟩) (by assumption) ?_
          try simp only [Act.put, List.getElem_toArray, List.getElem_cons_zero, List.getElem_cons_succ, List.setIfInBounds_toArray, List.set_cons_zero, List.set_cons_succ]
          refine wpAnyH_take (i := 11) (v := undef) rfl (by kernel_rfl) (by kernel_rfl) (by kernel_rfl) (fun _ _ _ h => h) (Or.inr ⟨by rfl, rfl⟩) (by assumption) ?_
          try simp only [Act.put, List.getElem_toArray, List.getElem_cons_zero, List.getElem_cons_succ, List.setIfInBounds_toArray, List.set_cons_zero, List.set_cons_succ]
          refine wpAnyH_take (i := 12) (v := undef) rfl (by kernel_rfl) (by kernel_rfl) (by kernel_rfl) (fun _ _ _ h => h) (Or.inr ⟨by rfl, rfl⟩) (by assumption) ?_
          try simp only [Act.put, List.getElem_toArray, List.getElem_cons_zero, List.getElem_cons_succ, List.setIfInBounds_toArray, List.set_cons_zero, List.set_cons_succ]
          refine wpAnyH_take (i := 13) (v := undef) rfl (by kernel_rfl) (by kernel_rfl) (by kernel_rfl) (fun _ _ _ h => h) (Or.inr ⟨by rfl, rfl⟩) (by assumption) ?_
          try simp only [Act.put, List.getElem_toArray, List.getElem_cons_zero, List.getElem_cons_succ, List.setIfInBounds_toArray, List.set_cons_zero, List.set_cons_succ]
          refine wpAnyH_take (i := 14) (v := undef) rfl (by kernel_rfl) (by kernel_rfl) (by kernel_rfl) (fun _ _ _ h => h) (Or.inr ⟨by rfl, rfl⟩) (by assumption) ?_
          try simp only [Act.put, List.getElem_toArray, List.getElem_cons_zero, List.getElem_cons_succ, List.setIfInBounds_toArray, List.set_cons_zero, List.set_cons_succ]
          refine wpAnyH_take (i := 15) (v := undef) rfl (by kernel_rfl) (by kernel_rfl) (by kernel_rfl) (fun _ _ _ h => h) (Or.inr ⟨by rfl, rfl⟩) (by assumption) ?_
          try simp only [Act.put, List.getElem_toArray, List.getElem_cons_zero, List.getElem_cons_succ, List.setIfInBounds_toArray, List.set_cons_zero, List.set_cons_succ]
          refine wpAnyH_take (i := 16) (v := undef) rfl (by kernel_rfl) (by kernel_rfl) (by kernel_rfl) (fun _ _ _ h => h) (Or.inr ⟨by rfl, rfl⟩) (by assumption) ?_
          try simp only [Act.put, List.getElem_toArray, List.getElem_cons_zero, List.getElem_cons_succ, List.setIfInBounds_toArray, List.set_cons_zero, List.set_cons_succ]
          refine wpAnyH_take (i := 17) (v := undef) rfl (by kernel_rfl) (by kernel_rfl) (by kernel_rfl) (fun _ _ _ h => h) (Or.inr ⟨by rfl, rfl⟩) (by assumption) ?_
          try simp only [Act.put, List.getElem_toArray, List.getElem_cons_zero, List.getElem_cons_succ, List.setIfInBounds_toArray, List.set_cons_zero, List.set_cons_succ]
          refine wpAnyH_take (i := 18) (v := undef) rfl (by kernel_rfl) (by kernel_rfl) (by kernel_rfl) (fun _ _ _ h => h) (Or.inr ⟨by rfl, rfl⟩) (by assumption) ?_
          try simp only [Act.put, List.getElem_toArray, List.getElem_cons_zero, List.getElem_cons_succ, List.setIfInBounds_toArray, List.set_cons_zero, List.set_cons_succ]
          refine wpAnyH_take (i := 19) (v := undef) rfl (by kernel_rfl) (by kernel_rfl) (by kernel_rfl) (fun _ _ _ h => h) (Or.inr ⟨by rfl, rfl⟩) (by assumption) ?_
          try simp only [Act.put, List.getElem_toArray, List.getElem_cons_zero, List.getElem_cons_succ, List.setIfInBounds_toArray, List.set_cons_zero, List.set_cons_succ]
          refine wpAnyH_take (i := 20) (v := undef) rfl (by kernel_rfl) (by kernel_rfl) (by kernel_rfl) (fun _ _ _ h => h) (Or.inr ⟨by rfl, rfl⟩) (by assumption) ?_
          try simp only [Act.put, List.getElem_toArray, List.getElem_cons_zero, List.getElem_cons_succ, List.setIfInBounds_toArray, List.set_cons_zero, List.set_cons_succ]
          refine wpAnyH_take (i := 21) (v := undef) rfl (by kernel_rfl) (by kernel_rfl) (by kernel_rfl) (fun _ _ _ h => h) (Or.inr ⟨by rfl, rfl⟩) (by assumption) ?_
          try simp only [Act.put, List.getElem_toArray, List.getElem_cons_zero, List.getElem_cons_succ, List.setIfInBounds_toArray, List.set_cons_zero, List.set_cons_succ]
          first
            | (refine wpAnyH_take (i := 22) (v := undef) rfl (by kernel_rfl) (by kernel_rfl) (by kernel_rfl) (fun _ _ _ h => h) (Or.inr ⟨by rfl, rfl⟩) (by assumption) ?_)
            | (refine wpAnyH_take (i := 22) (v := ?_) rfl (by kernel_rfl) (by kernel_rfl) (by kernel_rfl) (fun _ _ _ h => h) (Or.inl ⟨by rfl, ?_⟩) (by assumption) ?_
               rotate_left
               (intro w hSw
                (try dsimp only at hSw)
                (go_simp <;> with_reducible rfl)))
          try simp only [Act.put, List.getElem_toArray, List.getElem_cons_zero, List.getElem_cons_succ, List.setIfInBounds_toArray, List.set_cons_zero, List.set_cons_succ]
          first
            | (refine wpAnyH_take (i := 23) (v := undef) rfl (by kernel_rfl) (by kernel_rfl) (by kernel_rfl) (fun _ _ _ h => h) (Or.inr ⟨by rfl, rfl⟩) (by assumption) ?_)
            | (refine wpAnyH_take (i := 23) (v := ?_) rfl (by kernel_rfl) (by kernel_rfl) (by kernel_rfl) (fun _ _ _ h => h) (Or.inl ⟨by rfl, ?_⟩) (by assumption) ?_
               rotate_left
               (intro w hSw
                (try dsimp only at hSw)
                (go_simp <;> with_reducible rfl)))
          try simp only [Act.put, List.getElem_toArray, List.getElem_cons_zero, List.getElem_cons_succ, List.setIfInBounds_toArray, List.set_cons_zero, List.set_cons_succ]
          refine wpAnyH_done (by kernel_rfl) ?_ _
          go_wp2_with fail
          go_roundw
          case rel => exact ⟨k + 1, .slice (some ⟨gg, 0, none⟩) (k + 1) cap2, (some k), by rfl, by omega, Or.inr ⟨gg, cap2, rfl⟩, by go_num, by rfl, atK_first hat.out HF.out HFK.out hz, by unfold Hid; rw [HNX.out]; exact HO4.out.drew, HB4.out.drew⟩
          case measure => simp [intOf]; omega
        | some j =>
          rw [show atV (some j) = (j : Int) from rfl]
          have z2 : (f0 != 0) = true := by simp [hz]
          have z1 : (f0 == 0) = false := by simp [hz]
          obtain ⟨hjk, x, hjx, hjf⟩ := hat.out
          have hjl : j < fs.length := by omega
          have hjI : (j : Int) < (fs.length : Int) := by omega
          have hj0 : decide ((j : Int) < 0) = false := by simp
          obtain ⟨s0, s1, s2, s3⟩ := HR.out j hjl
          have hjg : fs[j]? = some fs[j] := List.getElem?_eq_getElem hjl
          have HJ := hide hjg
          clear hjx hjf hjg s0 s3
          generalize fs[j] = h at *
          obtain ⟨h0, h1, h2, h3⟩ := h
          dsimp only at s1 s2
          have B1 := (HB4.out.cell (p := ⟨g, off + j * 4 + 1, none⟩) hg).trans s1
          have B2 := (HB4.out.cell (p := ⟨g, off + j * 4 + 2, none⟩) hg).trans s2
          have cc := hide (fun w => refComp_any f1 f2 h1 h2 w)
          obtain ⟨cv, hcv⟩ : ∃ cv, cmp2 f1 f2 h1 h2 = cv := ⟨_, rfl⟩
          by_cases hb : cmp2 f1 f2 h1 h2 < 0
          · rw [hcv] at cc
            have hbc : cv < 0 := hcv ▸ hb
            have hbd : decide (cv < 0) = true := by simp [hbc]
            clear hcv
            go_wp2_with fail
            go_region_held3 (fun w' => w'.cell? ⟨g, off + k * 4, none⟩ = some (.int .i64 f0) ∧ w'.cell? ⟨g, off + k * 4 + 1, none⟩ = some (.int .i64 f1) ∧ w'.cell? ⟨g, off + k * 4 + 2, none⟩ = some (.int .i64 f2) ∧ w'.cell? ⟨g, off + j * 4 + 1, none⟩ = some (.int .i64 h1) ∧ w'.cell? ⟨g, off + j * 4 + 2, none⟩ = some (.int .i64 h2))
              (go_keep)
              (first | (go_at_call 24; refine (cc.out _).mono ?_; rintro e w5 ⟨rfl, hv2⟩; have HO5 := hide (own_below HO4.out.drew hv2); have Bw : Below w.heap.size w w5 := HB4.out.drew.trans (hv2.mono (by show w.heap.size ≤ w4.heap.size; exact HB4.out.size)); have HB5 := hide Bw; have DA0 := (Bw.cell (p := ⟨g, off + k * 4, none⟩) hg).trans r0; have DA1 := (Bw.cell (p := ⟨g, off + k * 4 + 1, none⟩) hg).trans r1; have DA2 := (Bw.cell (p := ⟨g, off + k * 4 + 2, none⟩) hg).trans r2; have DJ1 := (Bw.cell (p := ⟨g, off + j * 4 + 1, none⟩) hg).trans s1; have DJ2 := (Bw.cell (p := ⟨g, off + j * 4 + 2, none⟩) hg).trans s2; clear Bw hv2))
            go_wp2_with fail
            go_roundw
            case rel => exact ⟨k + 1, .slice (some ⟨gg, 0, none⟩) (k + 1) cap2, (some k), by rfl, by omega, Or.inr ⟨gg, cap2, rfl⟩, by go_num, by rfl, atK_ahead hat.out HJ.out HF.out HFK.out hz hb, by unfold Hid; rw [HNX.out]; exact HO5.out, HB5.out⟩
            case measure => simp [intOf]; omega
          · rw [hcv] at cc
            have hbc : ¬ cv < 0 := hcv ▸ hb
            have hbd : decide (cv < 0) = false := by simp; omega
            clear hcv
            go_wp2_with fail
            go_region_held3 (fun w' => w'.cell? ⟨g, off + k * 4, none⟩ = some (.int .i64 f0) ∧ w'.cell? ⟨g, off + k * 4 + 1, none⟩ = some (.int .i64 f1) ∧ w'.cell? ⟨g, off + k * 4 + 2, none⟩ = some (.int .i64 f2) ∧ w'.cell? ⟨g, off + j * 4 + 1, none⟩ = some (.int .i64 h1) ∧ w'.cell? ⟨g, off + j * 4 + 2, none⟩ = some (.int .i64 h2))
              (go_keep)
              (first | (go_at_call 24; refine (cc.out _).mono ?_; rintro e w5 ⟨rfl, hv2⟩; have HO5 := hide (own_below HO4.out.drew hv2); have Bw : Below w.heap.size w w5 := HB4.out.drew.trans (hv2.mono (by show w.heap.size ≤ w4.heap.size; exact HB4.out.size)); have HB5 := hide Bw; have DA0 := (Bw.cell (p := ⟨g, off + k * 4, none⟩) hg).trans r0; have DA1 := (Bw.cell (p := ⟨g, off + k * 4 + 1, none⟩) hg).trans r1; have DA2 := (Bw.cell (p := ⟨g, off + k * 4 + 2, none⟩) hg).trans r2; have DJ1 := (Bw.cell (p := ⟨g, off + j * 4 + 1, none⟩) hg).trans s1; have DJ2 := (Bw.cell (p := ⟨g, off + j * 4 + 2, none⟩) hg).trans s2; clear Bw hv2))
            go_wp2_with fail
            go_roundw
            case rel => exact ⟨k + 1, .slice (some ⟨gg, 0, none⟩) (k + 1) cap2, (some j), by rfl, by omega, Or.inr ⟨gg, cap2, rfl⟩, by go_num, by rfl, atK_behind hat.out HJ.out HF.out hz (by show ¬ cmp2 f1 f2 h1 h2 < 0; omega), by unfold Hid; rw [HNX.out]; exact HO5.out, HB5.out⟩
            case measure => simp [intOf]; omega
    · obtain rfl : k = fs.length := by omega
      rcases hsh.out with ⟨h, rfl⟩ | ⟨gg, cp, rfl⟩
      · have ho : o = none := by
          cases o with
          | none => rfl
          | some j => have := (hat.out).1; omega
        subst ho
        have fr := hide (fun (_ : Unit) => first_none wr)
        clear hown hat hsh
        go_wp2_with fail
        refine (fr.out ()).mono ?_
        rintro e w1 ⟨rfl, h1B⟩
        have qB := hB.out.trans (h1B.mono hbs)
        have hqs := qB.size
        clear h1B
        go_wp2_with fail
        have a0 := blk_new w1 (Obj.cells #[Value.int IntKind.i64 0, Value.int IntKind.i64 0, Value.int IntKind.i64 0, Value.string { data := #[] }] 33)
        have qA := qB.alloc hqs (Obj.cells #[Value.int IntKind.i64 0, Value.int IntKind.i64 0, Value.int IntKind.i64 0, Value.string { data := #[] }] 33)
        generalize w1.alloc (Obj.cells #[Value.int IntKind.i64 0, Value.int IntKind.i64 0, Value.int IntKind.i64 0, Value.string { data := #[] }] 33) = W6 at *
        refine (known_any _ (HT.out.below qA)).mono ?_
        rintro e w7 ⟨rfl, h7B⟩
        have a0 := (h7B.block w1.heap.size (blk_lt a0)).trans a0
        have c0 := blk_cell a0 0
        have c1 := blk_cell a0 1
        have c2 := blk_cell a0 2
        have c3 := blk_cell a0 3
        have qC := qA.trans (h7B.mono qA.size)
        clear h7B
        go_wp2_with fail
        go_ret
        exact ⟨rfl, qC⟩
      have hown' := hown.out
      rw [List.take_length] at hown'
      have hat' := hat.out
      unfold AtK at hat'
      rw [List.take_length] at hat'
      have hgl := (hown'.lt gg rfl).2
      have hFR := fRow_of wr w.heap.size gg cp fs hown'
      have hFRH := hide hFR
      have fr := first_row gg cp fs hL50 wr hgl hFR
      clear hown hown' hat hFR hsh
      cases o with
      | none =>
        dsimp only at hat'
        have fr : Hid (∀ _ : Unit, Calls Tryd.prog 25 #[.slice (some ⟨gg, 0, none⟩) fs.length cp] wr fun e w' => e = .returned (.tuple #[.agg #[.int .i64 0, .int .i64 0, .int .i64 0, .string ⟨#[]⟩], .bool false]) ∧ Below wr.heap.size wr w') := by
          intro _; rw [hat'] at fr; exact fr
        clear hat'
        go_wp2_with fail
        refine (fr.out ()).mono ?_
        rintro e w1 ⟨rfl, h1B⟩
        have qB := hB.out.trans (h1B.mono hbs)
        have hqs := qB.size
        clear h1B
        go_wp2_with fail
        have a0 := blk_new w1 (Obj.cells #[Value.int IntKind.i64 0, Value.int IntKind.i64 0, Value.int IntKind.i64 0, Value.string { data := #[] }] 33)
        have qA := qB.alloc hqs (Obj.cells #[Value.int IntKind.i64 0, Value.int IntKind.i64 0, Value.int IntKind.i64 0, Value.string { data := #[] }] 33)
        generalize w1.alloc (Obj.cells #[Value.int IntKind.i64 0, Value.int IntKind.i64 0, Value.int IntKind.i64 0, Value.string { data := #[] }] 33) = W6 at *
        refine (known_any _ (HT.out.below qA)).mono ?_
        rintro e w7 ⟨rfl, h7B⟩
        have a0 := (h7B.block w1.heap.size (blk_lt a0)).trans a0
        have c0 := blk_cell a0 0
        have c1 := blk_cell a0 1
        have c2 := blk_cell a0 2
        have c3 := blk_cell a0 3
        have qC := qA.trans (h7B.mono qA.size)
        clear h7B
        go_wp2_with fail
        go_ret
        exact ⟨rfl, qC⟩
      | some j =>
        dsimp only at hat'
        obtain ⟨hj, f, hjf, hfo⟩ := hat'
        obtain ⟨f0, f1, f2, f3⟩ := f
        have fr : Hid (∀ _ : Unit, Calls Tryd.prog 25 #[.slice (some ⟨gg, 0, none⟩) fs.length cp] wr fun e w' => e = .returned (.tuple #[.agg #[.int .i64 f0, .int .i64 f1, .int .i64 f2, .string f3], .bool true]) ∧ Below wr.heap.size wr w') := by
          intro _; rw [hfo] at fr; exact fr
        have hje : fs[j] = (f0, f1, f2, f3) := by
          have := List.getElem?_eq_getElem hj
          rw [hjf] at this; exact (Option.some.inj this).symm
        obtain ⟨s0, s1, s2, s3⟩ := hFRH.out j hj
        rw [hje] at s0 s1 s2 s3
        simp only [Nat.zero_add] at s0 s1 s2 s3
        clear hfo hje hjf
        have hj0 : decide ((j : Int) < 0) = false := by simp
        have hjI : (j : Int) < (fs.length : Int) := by omega
        rw [show atV (some j) = (j : Int) from rfl]
        go_wp2_with fail
        refine (fr.out ()).mono ?_
        rintro e w1 ⟨rfl, h1B⟩
        have qB := hB.out.trans (h1B.mono hbs)
        have hqs := qB.size
        have s0 := (h1B.cell (p := ⟨gg, j * 4, none⟩) hgl).trans s0
        have s1 := (h1B.cell (p := ⟨gg, j * 4 + 1, none⟩) hgl).trans s1
        have s2 := (h1B.cell (p := ⟨gg, j * 4 + 2, none⟩) hgl).trans s2
        have s3 := (h1B.cell (p := ⟨gg, j * 4 + 3, none⟩) hgl).trans s3
        have hg1 : gg < w1.heap.size := Nat.lt_of_lt_of_le hgl h1B.size
        clear h1B
        go_wp2_with fail
        have a0 := blk_new w1 (Obj.cells #[Value.int IntKind.i64 f0, Value.int IntKind.i64 f1, Value.int IntKind.i64 f2, Value.string f3] 33)
        have qA := qB.alloc hqs (Obj.cells #[Value.int IntKind.i64 f0, Value.int IntKind.i64 f1, Value.int IntKind.i64 f2, Value.string f3] 33)
        have s0 := (World.cell?_alloc_lt w1 (Obj.cells #[Value.int IntKind.i64 f0, Value.int IntKind.i64 f1, Value.int IntKind.i64 f2, Value.string f3] 33) ⟨gg, j * 4, none⟩ hg1).trans s0
        have s1 := (World.cell?_alloc_lt w1 (Obj.cells #[Value.int IntKind.i64 f0, Value.int IntKind.i64 f1, Value.int IntKind.i64 f2, Value.string f3] 33) ⟨gg, j * 4 + 1, none⟩ hg1).trans s1
        have s2 := (World.cell?_alloc_lt w1 (Obj.cells #[Value.int IntKind.i64 f0, Value.int IntKind.i64 f1, Value.int IntKind.i64 f2, Value.string f3] 33) ⟨gg, j * 4 + 2, none⟩ hg1).trans s2
        have s3 := (World.cell?_alloc_lt w1 (Obj.cells #[Value.int IntKind.i64 f0, Value.int IntKind.i64 f1, Value.int IntKind.i64 f2, Value.string f3] 33) ⟨gg, j * 4 + 3, none⟩ hg1).trans s3
        have hg6 : gg < (w1.alloc (Obj.cells #[Value.int IntKind.i64 f0, Value.int IntKind.i64 f1, Value.int IntKind.i64 f2, Value.string f3] 33)).heap.size := by simp; omega
        generalize w1.alloc (Obj.cells #[Value.int IntKind.i64 f0, Value.int IntKind.i64 f1, Value.int IntKind.i64 f2, Value.string f3] 33) = W6 at *
        have e0 : W6.cell? ⟨w1.heap.size, 0, none⟩ = some (.int .i64 f0) := blk_cell a0 0
        have e1 : W6.cell? ⟨w1.heap.size, 1, none⟩ = some (.int .i64 f1) := blk_cell a0 1
        have e2 : W6.cell? ⟨w1.heap.size, 2, none⟩ = some (.int .i64 f2) := blk_cell a0 2
        have e3 : W6.cell? ⟨w1.heap.size, 3, none⟩ = some (.string f3) := blk_cell a0 3
        have kn := hide (fun (_ : Unit) => known_any W6.drew (HT.out.below qA.drew))
        go_region_held3 (fun w' => w'.cell? ⟨w1.heap.size, 0, none⟩ = some (.int .i64 f0) ∧ w'.cell? ⟨w1.heap.size, 1, none⟩ = some (.int .i64 f1) ∧ w'.cell? ⟨w1.heap.size, 2, none⟩ = some (.int .i64 f2) ∧ w'.cell? ⟨w1.heap.size, 3, none⟩ = some (.string f3) ∧ w'.cell? ⟨gg, j * 4, none⟩ = some (.int .i64 f0) ∧ w'.cell? ⟨gg, j * 4 + 1, none⟩ = some (.int .i64 f1) ∧ w'.cell? ⟨gg, j * 4 + 2, none⟩ = some (.int .i64 f2) ∧ w'.cell? ⟨gg, j * 4 + 3, none⟩ = some (.string f3))
          (go_keep)
          (first | (go_at_call 10; refine (kn.out ()).mono ?_; rintro e w7 ⟨rfl, h7B⟩; have a0 := (h7B.block w1.heap.size (blk_lt a0)).trans a0; have c0 : w7.cell? ⟨w1.heap.size, 0, none⟩ = some (.int .i64 f0) := blk_cell a0 0; have c1 : w7.cell? ⟨w1.heap.size, 1, none⟩ = some (.int .i64 f1) := blk_cell a0 1; have c2 : w7.cell? ⟨w1.heap.size, 2, none⟩ = some (.int .i64 f2) := blk_cell a0 2; have c3 : w7.cell? ⟨w1.heap.size, 3, none⟩ = some (.string f3) := blk_cell a0 3; have s0 := (h7B.cell (p := ⟨gg, j * 4, none⟩) hg6).trans s0; have s1 := (h7B.cell (p := ⟨gg, j * 4 + 1, none⟩) hg6).trans s1; have s2 := (h7B.cell (p := ⟨gg, j * 4 + 2, none⟩) hg6).trans s2; have s3 := (h7B.cell (p := ⟨gg, j * 4 + 3, none⟩) hg6).trans s3; have qC := qA.drew.trans (h7B.mono qA.size); clear h7B))
        go_wp2_with fail
        go_ret
        exact ⟨rfl, qC⟩

set_option maxRecDepth 100000 in
set_option maxHeartbeats 8000000 in
theorem pfirst_nil (w : World) (hT : Tabs w) :
    Calls Tryd.prog 7 #[.slice none 0 0] w fun e w' => e = .returned (.bool true) ∧ Below w.heap.size w w' := by
  have HT := hide hT
  have fr := hide (fun (_ : Unit) => first_none w)
  clear hT
  go_enter Tryd.func7, Tryd.ntmps7
  go_wp2_with fail
  refine wp_loop_rounds 1 ?_
  rw [rounds_succ]
  go_wp2_with fail
  refine (fr.out ()).mono ?_
  rintro e w1 ⟨rfl, h1B⟩
  have qB := h1B
  have hqs := qB.size
  clear h1B
  go_wp2_with fail
  have a0 := blk_new w1 (Obj.cells #[Value.int IntKind.i64 0, Value.int IntKind.i64 0, Value.int IntKind.i64 0, Value.string { data := #[] }] 33)
  have qA := qB.alloc hqs (Obj.cells #[Value.int IntKind.i64 0, Value.int IntKind.i64 0, Value.int IntKind.i64 0, Value.string { data := #[] }] 33)
  generalize w1.alloc (Obj.cells #[Value.int IntKind.i64 0, Value.int IntKind.i64 0, Value.int IntKind.i64 0, Value.string { data := #[] }] 33) = W6 at *
  refine (known_any _ (HT.out.below qA)).mono ?_
  rintro e w7 ⟨rfl, h7B⟩
  have a0 := (h7B.block w1.heap.size (blk_lt a0)).trans a0
  have c0 := blk_cell a0 0
  have c1 := blk_cell a0 1
  have c2 := blk_cell a0 2
  have c3 := blk_cell a0 3
  have qC := qA.trans (h7B.mono qA.size)
  clear h7B
  go_wp2_with fail
  go_ret
  exact ⟨rfl, qC⟩
end Go.Proofs.YtcabkkfehdcagaaDoor
