/- over: how many are above each one. -/
import Derived.Test.YtdcpcemihpkkaaaPairs
namespace Go.Proofs.Ytdcpcemihpkkaaa
open Go.RowKit Go.Maps
set_option linter.unusedVariables false
set_option linter.unusedSimpArgs false

/-- The block O holds the n numbers of f. -/
def Nums (w : World) (O n : Nat) (f : Nat → Int) : Prop := ∃ c : Array Value, w.heap[O]? = some (.cells c 3) ∧ c.size = n ∧ ∀ i, i < n → c[i]? = some (.int .i64 (f i))

theorem Nums.cell {w : World} {O n : Nat} {f : Nat → Int} (h : Nums w O n f) {i : Nat} (hi : i < n) : w.cell? ⟨O, i, none⟩ = some (.int .i64 (f i)) := by
  obtain ⟨c, h1, h2, h3⟩ := h
  rw [blk_cell h1]; exact h3 i hi
theorem Nums.free {w : World} {O n : Nat} {f : Nat → Int} (h : Nums w O n f) (i : Nat) : w.frozen? ⟨O, i, none⟩ = false := by
  obtain ⟨c, h1, _⟩ := h
  exact blk_free h1 i
theorem Nums.lt {w : World} {O n : Nat} {f : Nat → Int} (h : Nums w O n f) : O < w.heap.size := by
  obtain ⟨c, h1, _⟩ := h
  exact blk_lt h1
theorem Nums.chg {w w' : World} {O n : Nat} {f : Nat → Int} (h : Nums w O n f) {S : Nat → Prop} (g : Chg S w w') (hn : ¬ S O) : Nums w' O n f := by
  obtain ⟨c, h1, h2⟩ := h
  exact ⟨c, g.blk hn h1, h2⟩
theorem Nums.set {w : World} {O n : Nat} {f : Nat → Int} (h : Nums w O n f) (i : Nat) (x : Int) : Nums (w.setCell ⟨O, i, none⟩ (.int .i64 x)) O n (up f i x) := by
  obtain ⟨c, h1, h2, h3⟩ := h
  refine ⟨_, blk_set h1 i _, by simp [h2], fun k hk => ?_⟩
  rw [Array.getElem?_setIfInBounds]
  by_cases e : i = k
  · subst e
    simp [h2, hk, up]
  · rw [if_neg e, up_ne _ _ (Ne.symm e)]
    exact h3 k hk
theorem Nums.made (w : World) (n : Nat) : Nums (w.alloc (.cells (madeCells #[.int .i64 0] n) 3)) w.heap.size n (fun _ => 0) :=
  ⟨_, blk_new w _, size_madeCells _ _, fun i hi => by simp [madeCells, hi, Nat.mod_one]⟩
theorem Nums.rs {w w' : World} {O m : Nat} {f : Nat → Int} (h : Nums w O m f) {b n : Nat} {ps : Pairs} {mv sv : Value} (hr : Rs w b n ps mv sv) (hb : b < O) (g : Chg (fun x => x = O) w w') : Rs w' b n ps mv sv := by
  obtain ⟨c, h1, _⟩ := h
  exact hr.chgT h1 ⟨by decide, by decide⟩ hb g

/-- how many pairs lead to one -/
def cntP (l : List (Int × Int)) (i : Nat) : Int := ((l.filter fun p => p.2 == (i : Int)).length : Int)
theorem cntP_snoc (l : List (Int × Int)) (p : Int × Int) (i : Nat) : cntP (l ++ [p]) i = cntP l i + (if p.2 = (i : Int) then 1 else 0) := by
  unfold cntP
  rw [List.filter_append, List.length_append]
  by_cases h : p.2 = (i : Int)
  · simp [h]
  · simp [h]

theorem underF_mem {n : Nat} {ps : Pairs} {a : Int} {k : Nat} {c : Int} (h : c ∈ underF n ps a k) : ∃ i : Nat, i < k ∧ c = (i : Int) := by
  unfold underF at h
  obtain ⟨i, hi, rfl⟩ := List.mem_map.1 h
  exact ⟨i, List.mem_range.1 (List.mem_filter.1 hi).1, rfl⟩
theorem pairsF_mem {n : Nat} {ps : Pairs} {k : Nat} {p : Int × Int} (h : p ∈ pairsF n ps k) : ∃ i : Nat, i < n ∧ p.2 = (i : Int) := by
  unfold pairsF at h
  obtain ⟨a, _, h⟩ := List.mem_flatMap.1 h
  obtain ⟨c, hc, rfl⟩ := List.mem_map.1 h
  exact underF_mem hc

set_option maxRecDepth 100000 in
set_option maxHeartbeats 8000000 in
theorem over_some (b n : Nat) (hn : n ≤ 1000) (ps : Pairs) (hps : ps.length ≤ 1000000) (hbd : Bd ps n) (mv sv : Value) (w : World) (h : Rs w b n ps mv sv) :
    Calls Try.prog 28 #[.pointer (some ⟨b, 0, none⟩)] w fun e w' => (∃ O, e = .returned (.slice (some ⟨O, 0, none⟩) n n) ∧ w.heap.size ≤ O ∧ Nums w' O n (cntP (pairsF n ps n))) ∧ Rs w' b n ps mv sv ∧ Chg (fun x => x = b) w w' := by
  have hmk := run_make_row' (P := Try.prog) 36 3 (.int .i64 0) 8 (by kernel_rfl) (by kernel_rfl) rfl .i64 .i64 n (by omega) (by omega)
  have c0 := h.n
  have lb := h.lt
  have ln := hide (len_some b n w c0)
  have H := hide h
  have pr := hide (fun w' h => pairs_some b n hn ps hps hbd mv sv w' h)
  have hpl := pairsF_len n ps n
  have hnn : n * n ≤ 1000 * 1000 := Nat.mul_le_mul hn hn
  have hmem := hide (fun p h => pairsF_mem (n := n) (ps := ps) (k := n) (p := p) h)
  obtain ⟨l, hl⟩ : ∃ l, l = pairsF n ps n := ⟨_, rfl⟩
  rw [← hl] at pr hpl hmem ⊢
  clear h c0 hl
  go_enter Try.func28, Try.ntmps28
  go_wp2_with fail
  refine ln.out.mono ?_
  rintro e w1 ⟨rfl, rfl⟩
  have NM := hide (Nums.made w n)
  have R1 := hide (H.out.chg (al w (.cells (madeCells #[.int .i64 0] n) 3)) (fun _ _ h => h))
  have C1 := hide (al w (.cells (madeCells #[.int .i64 0] n) 3))
  go_wp2_with fail
  generalize (w.alloc (Obj.cells (madeCells #[Value.int IntKind.i64 0] n) 3)) = w1 at *
  obtain ⟨O, hO⟩ : ∃ O, w.heap.size = O := ⟨_, rfl⟩
  rw [hO] at NM ⊢
  have HO := hide hO
  have bO : b < O := by omega
  clear hO lb hmk
  have lO := NM.out.lt
  refine (pr.out _ R1.out).mono ?_
  rintro e w2 ⟨⟨v, rfl, o2⟩, r2, g2⟩
  obtain ⟨a, cap, rfl, hrow⟩ := irow_own o2
  clear hrow
  have P2 := hide o2
  have R2 := hide r2
  have N2 := hide (NM.out.chg g2 (by omega))
  have C2 : Hid (Chg (fun x => x = b) w w2) := hide (C1.out.none.trans g2)
  generalize w1.heap.size = b1 at *
  clear o2 r2 g2 NM R1 C1 pr
  go_wp2_with fail
  go_loopw [12] (fun iv wr => ∃ k : Nat, k ≤ l.length ∧ iv = .int .i64 k ∧ Hid (Nums wr O n (cntP (l.take k))) ∧ Hid (wr.ownsRow b1 43 2 (.slice a l.length cap) l.length (cells2 l)) ∧ Hid (Rs wr b n ps mv sv) ∧ Hid (Chg (fun x => x = b) w wr)) (fun iv _ => l.length - (intOf iv).toNat)
  case atStart => exact ⟨0, Nat.zero_le _, rfl, by
    have e : cntP (l.take 0) = fun _ => 0 := by funext i; simp [cntP]
    rw [e]; exact N2, P2, R2, C2⟩
  case round =>
    clear N2 P2 R2 C2
    obtain ⟨k, hk, rfl, hN, hP, hR, hC⟩ := hrel
    by_cases hlt : k < l.length
    · obtain ⟨a', c', e', hr'⟩ := irow_own hP.out
      rcases hr' with h0 | ⟨g, off, e2, hg, hcell⟩
      · rw [h0] at hlt; exact absurd hlt (Nat.not_lt_zero _)
      subst e2
      injection e' with e3 _ e5
      subst e3
      subst e5
      obtain ⟨d0, d1⟩ := hcell k hlt
      have tk := List.take_succ_eq_append_getElem hlt
      have hm := hmem.out _ (List.getElem_mem hlt)
      generalize l[k] = y at *
      obtain ⟨y0, y1⟩ := y
      dsimp only at d0 d1 hm
      obtain ⟨q, hq, rfl⟩ := hm
      have i0 : (0 : Int) ≤ (k : Int) := by omega
      have i1 : (k : Int) < (l.length : Int) := by omega
      have i2 : (0 : Int) ≤ (q : Int) := by omega
      have i3 : (q : Int) < (n : Int) := by omega
      have hle : 0 ≤ cntP (l.take k) q ∧ cntP (l.take k) q ≤ 1000000 := by
        unfold cntP
        have h1 := List.length_filter_le (fun p : Int × Int => p.2 == (q : Int)) (l.take k)
        rw [List.length_take] at h1
        omega
      have x0 := (al wr (.cells #[.int .i64 y0, .int .i64 (q : Int)] 43)).cell (fun h => h) (hN.out.cell hq)
      have N3 := hN.out.chg (al wr (.cells #[.int .i64 y0, .int .i64 (q : Int)] 43)) (fun h => h)
      have x1 := N3.free q
      have lO2 := hN.out.lt
      have lO3 := N3.lt
      have N4 := N3.set q (cntP (l.take k) q + 1)
      have g4 := Chg.set (wr.alloc (.cells #[.int .i64 y0, .int .i64 (q : Int)] 43)) O q (.int .i64 (cntP (l.take k) q + 1))
      have N5 : Hid (Nums ((wr.setCell ⟨O, q, none⟩ (.int .i64 (cntP (l.take k) q + 1))).alloc (.cells #[.int .i64 y0, .int .i64 (q : Int)] 43)) O n (cntP (l.take (k + 1)))) := hide (by
        have e : up (cntP (l.take k)) q (cntP (l.take k) q + 1) = cntP (l.take (k + 1)) := by
          funext i
          rw [tk, cntP_snoc]
          by_cases e : i = q
          · subst e; rw [up_at]; simp
          · have e' : ¬ ((q : Int) = (i : Int)) := fun h => e (by omega)
            rw [up_ne _ _ e]; simp [e']
        rw [← e, ← World.setCell_alloc_past _ _ _ _ lO2]
        exact N4)
      have R5 : Hid (Rs ((wr.setCell ⟨O, q, none⟩ (.int .i64 (cntP (l.take k) q + 1))).alloc (.cells #[.int .i64 y0, .int .i64 (q : Int)] 43)) b n ps mv sv) := hide (by
        rw [← World.setCell_alloc_past _ _ _ _ lO2]
        exact N3.rs (hR.out.chg (al wr (.cells #[.int .i64 y0, .int .i64 (q : Int)] 43)) (fun _ _ h => h)) bO g4)
      have P5 : Hid (((wr.setCell ⟨O, q, none⟩ (.int .i64 (cntP (l.take k) q + 1))).alloc (.cells #[.int .i64 y0, .int .i64 (q : Int)] 43)).ownsRow b1 43 2 (.slice (some ⟨g, off, none⟩) l.length cap) l.length (cells2 l)) := hide (by
        rw [← World.setCell_alloc_past _ _ _ _ lO2]
        exact own_chg (hP.out.alloc _) g4 (fun x hx e => by omega))
      have C5 : Hid (Chg (fun x => x = b) w ((wr.setCell ⟨O, q, none⟩ (.int .i64 (cntP (l.take k) q + 1))).alloc (.cells #[.int .i64 y0, .int .i64 (q : Int)] 43))) := hide (by
        rw [← World.setCell_alloc_past _ _ _ _ lO2]
        have h1 : Chg (fun x => x = b ∨ x = O) w _ := ((hC.out.mono (fun x _ h => Or.inl h)).trans (al wr (.cells #[.int .i64 y0, .int .i64 (q : Int)] 43)).none).trans (g4.mono (fun x _ h => Or.inr h))
        exact h1.mono (fun x hx h => by have := HO.out; omega))
      generalize cntP (l.take k) q = cq at *
      clear hN hP hR hC N3 N4 g4 hcell tk
      go_wp2_with fail
      go_roundw
      case rel => exact ⟨k + 1, by omega, by go_num, N5, P5, R5, C5⟩
      case measure => simp [intOf]; omega
    · have hkl : k = l.length := by omega
      subst hkl
      have N6 : Hid (Nums wr O n (cntP l)) := hide (by have h := hN.out; rw [List.take_length] at h; exact h)
      clear hN
      go_wp2_with fail
      go_ret
      exact ⟨⟨O, rfl, by have := HO.out; omega, N6.out⟩, hR.out, hC.out⟩
end Go.Proofs.Ytdcpcemihpkkaaa
