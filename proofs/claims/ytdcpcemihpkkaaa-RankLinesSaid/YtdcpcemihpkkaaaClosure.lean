/- The closure that makes a rank's rows: Warshall's. -/
import Derived.Test.YtdcpcemihpkkaaaGrid
import Derived.Deep.OwnRows
namespace Go.Proofs.Ytdcpcemihpkkaaa
open Go.RowKit
set_option linter.unusedVariables false
set_option linter.unusedSimpArgs false

theorem grid_start (w : World) (n m : Nat) (gs : Nat → Nat) (W : Nat → Nat → Nat) : Grid (w.alloc (.cells (madeCells #[.slice none 0 0] n) 76)) w.heap.size w.heap.size n m 0 gs W where
  c := ⟨_, blk_new w _, size_madeCells _ _, fun i hi => absurd hi (Nat.not_lt_zero _)⟩
  rows := fun i hi => absurd hi (Nat.not_lt_zero _)
  ne := fun i hi => absurd hi (Nat.not_lt_zero _)
  inj := fun i j hi => absurd hi (Nat.not_lt_zero _)
  bl := Nat.le_refl _
  bg := fun i hi => absurd hi (Nat.not_lt_zero _)

theorem row_made (w : World) (m : Nat) : Row (w.alloc (.cells (madeCells #[.int .u64 0] m) 94)) w.heap.size m (fun _ => 0) :=
  ⟨_, blk_new w _, size_madeCells _ _, fun q hq => ⟨by simp [madeCells, hq, Nat.mod_one], Nat.lt_of_lt_of_le Nat.zero_lt_one (by decide)⟩⟩

theorem up_zero (k : Nat) : up (fun _ _ => 0 : Nat → Nat → Nat) k (fun _ => 0) = fun _ _ => 0 := by
  funext i
  unfold up
  split <;> rfl

theorem bit_zero (j : Nat) : bitAt (fun _ => 0) j = false := by simp [bitAt]

/-- The bits of the first n rows are those of R. -/
def Bits (n : Nat) (W : Nat → Nat → Nat) (R : Nat → Nat → Prop) : Prop := ∀ i j, i < n → j < n → (bitAt (W i) j = true ↔ R i j)

theorem bits_put {n k : Nat} {W : Nat → Nat → Nat} {ps : Pairs} (h : Bits n W (fun i j => (i, j) ∈ ps.take k)) (hk : k < ps.length) :
    Bits n (up W ps[k].1 (fun q => if q = ps[k].2 / 64 then W ps[k].1 (ps[k].2 / 64) ||| 2 ^ (ps[k].2 % 64) else W ps[k].1 q)) (fun i j => (i, j) ∈ ps.take (k + 1)) := by
  have h : ∀ i j, i < n → j < n → (bitAt (W i) j = true ↔ (i, j) ∈ ps.take k) := h
  intro i j hi hj
  show _ ↔ (i, j) ∈ ps.take (k + 1)
  rw [List.take_succ_eq_append_getElem hk, List.mem_append, List.mem_singleton]
  by_cases e : i = ps[k].1
  · subst e
    rw [up_at, bit_put, Bool.or_eq_true, decide_eq_true_eq, h _ j hi hj]
    constructor
    · rintro (h1 | h1)
      · exact Or.inr (by rw [← h1])
      · exact Or.inl h1
    · rintro (h1 | h1)
      · exact Or.inr h1
      · exact Or.inl (by rw [← h1])
  · rw [up_ne _ _ e, h i j hi hj]
    constructor
    · exact Or.inl
    · rintro (h1 | h1)
      · exact h1
      · exact absurd (by rw [← h1]) e

theorem path_own {ps : Pairs} {k j : Nat} : Path ps (k + 1) k j ↔ Path ps k k j := by
  rw [path_succ]
  constructor
  · rintro (h | ⟨_, h⟩) <;> exact h
  · exact Or.inl

/-- What stands in the round i of the pass k. -/
def Mid (ps : Pairs) (k i : Nat) : Nat → Nat → Prop := fun a j => if a < i then Path ps (k + 1) a j else Path ps k a j

theorem mid_row {ps : Pairs} {k i j : Nat} : Mid ps k i k j ↔ Path ps k k j := by
  unfold Mid
  split
  · exact path_own
  · exact Iff.rfl

theorem mid_no {n k i : Nat} {W : Nat → Nat → Nat} {ps : Pairs} (h : Bits n W (Mid ps k i)) (hi : i < n) (hk : k < n) (hb : bitAt (W i) k = false) : Bits n W (Mid ps k (i + 1)) := by
  intro a j ha hj
  rw [h a j ha hj]
  unfold Mid
  by_cases e : a = i
  · subst e
    rw [if_neg (Nat.lt_irrefl _), if_pos (Nat.lt_succ_self _), path_succ]
    constructor
    · exact Or.inl
    · rintro (h1 | ⟨h1, _⟩)
      · exact h1
      · have := (h a k ha hk).2 (by unfold Mid; rw [if_neg (Nat.lt_irrefl _)]; exact h1)
        rw [hb] at this
        cases this
  · by_cases l : a < i
    · rw [if_pos l, if_pos (by omega)]
    · rw [if_neg l, if_neg (by omega)]

theorem mid_yes {n k i : Nat} {W : Nat → Nat → Nat} {ps : Pairs} (h : Bits n W (Mid ps k i)) (hi : i < n) (hk : k < n) (hb : bitAt (W i) k = true) : Bits n (up W i (orW (W i) (W k))) (Mid ps k (i + 1)) := by
  intro a j ha hj
  by_cases e : a = i
  · subst e
    rw [up_at, bit_join, Bool.or_eq_true, h a j ha hj, h k j hk hj, mid_row]
    have hik := (h a k ha hk).1 hb
    unfold Mid at hik ⊢
    rw [if_neg (Nat.lt_irrefl _)] at hik ⊢
    rw [if_pos (Nat.lt_succ_self _), path_succ]
    constructor
    · rintro (h1 | h1)
      · exact Or.inl h1
      · exact Or.inr ⟨hik, h1⟩
    · rintro (h1 | ⟨_, h1⟩)
      · exact Or.inl h1
      · exact Or.inr h1
  · rw [up_ne _ _ e, h a j ha hj]
    unfold Mid
    by_cases l : a < i
    · rw [if_pos l, if_pos (by omega)]
    · rw [if_neg l, if_neg (by omega)]

theorem orW_self (ws : Nat → Nat) : orW ws ws = ws := by funext q; simp [orW]
theorem up_self {α : Type} (f : Nat → α) (x : Nat) : up f x (f x) = f := by funext q; unfold up; split <;> simp_all

theorem join_any (w : World) (B L n m : Nat) (gs : Nat → Nat) (W : Nat → Nat → Nat) (h : Grid w B L n m n gs W) (i k ca cb : Nat) (hi : i < n) (hk : k < n) (hm : m ≤ 100000) :
    Calls Try.prog 42 #[.slice (some ⟨gs i, 0, none⟩) m ca, .slice (some ⟨gs k, 0, none⟩) m cb] w fun e w' => e = .returned (.tuple #[]) ∧ Row w' (gs i) m (orW (W i) (W k)) ∧ Chg (fun b => b = gs i) w w' := by
  by_cases e : i = k
  · subst e
    rw [orW_self]
    exact join_self _ _ _ _ _ hm w (h.rows i hi)
  · exact join_other _ _ _ _ _ (h.inj i k hi hk e) _ _ hm w (h.rows i hi) (h.rows k hk)

set_option maxRecDepth 100000 in
set_option maxHeartbeats 16000000 in
theorem closure_any (b p n : Nat) (pv mv rv sv : Value) (kk : Int) (ps : Pairs) (hn : n ≤ 1000) (hps : ps.length ≤ 1000000) (hbd : Bd ps n) (w : World) (hr : Rk w b n pv mv 0 1 rv kk sv)
    (hp : w.cell? ⟨p, 0, none⟩ = some (.pointer (some ⟨b, 0, none⟩))) (hv : PRow w b pv ps) :
    Calls Try.prog 40 #[.pointer (some ⟨p, 0, none⟩)] w fun e w2 => e = .returned (.tuple #[]) ∧ ∃ L gs W, Rk w2 b n pv mv 0 1 (.slice (some ⟨L, 0, none⟩) n n) kk sv ∧
      Grid w2 w.heap.size L n ((n + 63) / 64) n gs W ∧ Bits n W (Reach ps) ∧ Chg (fun x => x = b) w w2 := by
  obtain ⟨a, cap, rfl, hrow⟩ := hv
  obtain ⟨m, hm⟩ : ∃ m, m = (n + 63) / 64 := ⟨_, rfl⟩
  have em : ((n : Int) + 64 - 1) / 64 = (m : Int) := by omega
  have hm2 : m ≤ 100000 := by omega
  have hm3 : ∀ j, j < n → j / 64 < m := fun j hj => by omega
  have HM := hide hm3
  rw [← hm]
  clear hm hm3
  have hmk1 := run_make_row' (P := Try.prog) 67 76 (.slice none 0 0) 24 (by kernel_rfl) (by kernel_rfl) rfl .i64 .i64 n (by omega) (by omega)
  have hmk2 := run_make_row' (P := Try.prog) 76 94 (.int .u64 0) 8 (by kernel_rfl) (by kernel_rfl) rfl .i64 .i64 m (by omega) (by omega)
  have HR := hide hr
  have HP := hide hp
  have HV := hide hrow
  have HB := hide hbd
  have c0 : w.cell? ⟨b, 0, none⟩ = some (.int .i64 (n : Int)) := blk_cell hr 0
  have c1 : w.cell? ⟨b, 1, none⟩ = some (.slice a ps.length cap) := blk_cell hr 1
  have lb := HR.out.lt
  have lp := World.block_lt_of_cell? _ _ hp
  clear hr hrow hbd
  go_enter Try.func40, Try.ntmps40
  go_wp2_with fail
  have st := hide (grid_start w n m (fun _ => 0) (fun _ _ => 0))
  have sc := hide (al w (.cells (madeCells #[.slice none 0 0] n) 76))
  generalize w.alloc (Obj.cells (madeCells #[Value.slice none 0 0] n) 76) = w1 at *
  obtain ⟨L, hL⟩ : ∃ L, L = w.heap.size := ⟨_, rfl⟩
  obtain ⟨B, hB⟩ : ∃ B, B = w.heap.size := ⟨_, rfl⟩
  have st' : Hid (Grid w1 B L n m 0 (fun _ => 0) (fun _ _ => 0)) := by rw [hB, hL]; exact st
  have bB : b < B := by omega
  have pB : p < B := by omega
  have HBw := hide hB
  clear st
  rw [← hL]
  clear hL hB lb lp
  go_loopw [14] (fun iv wr => ∃ (k : Nat) (gs : Nat → Nat), k ≤ n ∧ iv = .int .i64 k ∧ Hid (Grid wr B L n m k gs (fun _ _ => 0)) ∧ Hid (Chg (fun _ => False) w wr)) (fun iv _ => n - (intOf iv).toNat)
  case atStart => exact ⟨0, _, Nat.zero_le _, rfl, st', sc⟩
  case round =>
    obtain ⟨k, gs, hk, rfl, hG, hC⟩ := hrel
    clear st' sc
    by_cases hlt : k < n
    · have x0 := hC.out.cell (fun h => h) c0
      have x1 := hC.out.cell (fun h => h) HP.out
      obtain ⟨v, x2⟩ := hG.out.some (i := k) hlt
      have x3 := hG.out.free k
      have lL := hG.out.lt
      have nx := hide (hG.out.make hlt wr.heap.size (Nat.le_refl _) (row_made wr m) (al _ _))
      have nc := hide (hC.out.alloc (.cells (madeCells #[.int .u64 0] m) 94))
      have y2 := (al wr (.cells (madeCells #[.int .u64 0] m) 94)).cell (fun h => h) x2
      rw [up_zero, World.setCell_alloc_past _ _ _ _ lL] at nx
      have lL2 : L < (wr.alloc (.cells (madeCells #[.int .u64 0] m) 94)).heap.size := Nat.lt_of_lt_of_le lL (al _ _).size
      go_wp2_with fail
      go_roundw
      case rel =>
        refine ⟨k + 1, _, by omega, by go_num, nx, hide ?_⟩
        have hf : Chg (fun b => B ≤ b) w _ := nc.out.none.setCell (p := ⟨L, k, none⟩) (Or.inl hG.out.bl) (.slice (some ⟨wr.heap.size, 0, none⟩) m m)
        rw [World.setCell_alloc_past _ _ _ _ lL] at hf
        exact hf.mono (fun b hb h => by have := HBw.out; omega)
      case measure => simp [intOf]; omega
    · have hkn : k = n := by omega
      have x1 := hC.out.cell (fun h => h) HP.out
      have x5 := hC.out.cell (fun h => h) c1
      subst hkn
      go_wp2_with fail
      have G1 := hG
      have C1 := hC
      have B1 : Hid (Bits k (fun _ _ => 0) (fun i j => (i, j) ∈ ps.take 0)) := hide (fun i j _ _ => by rw [bit_zero]; simp)
      generalize hW0 : (fun _ _ => 0 : Nat → Nat → Nat) = W0 at *
      clear hG hC hmk1 hmk2 em hW0 hlt hk
      go_loopw [34] (fun iv wr => ∃ (q : Nat) (W : Nat → Nat → Nat), q ≤ ps.length ∧ iv = .int .i64 q ∧ Hid (Grid wr B L k m k gs W) ∧ Hid (Bits k W (fun i j => (i, j) ∈ ps.take q)) ∧ Hid (Chg (fun _ => False) w wr)) (fun iv _ => ps.length - (intOf iv).toNat)
      case atStart => exact ⟨0, _, Nat.zero_le _, rfl, G1, B1, C1⟩
      case round =>
        clear G1 C1 B1
        obtain ⟨q, W, hq, rfl, hG, hBt, hC⟩ := hrel
        by_cases hlt : q < ps.length
        · rcases HV.out with h0 | ⟨pg, po, rfl, hpg, hpc⟩
          · rw [h0] at hlt; exact absurd hlt (Nat.not_lt_zero _)
          have hbq := HB.out _ (List.getElem_mem hlt)
          have nb := hide (bits_put hBt.out hlt)
          obtain ⟨d0, d1⟩ := hpc q hlt
          have e0 := hC.out.cell (fun h => h) d0
          have e1 := hC.out.cell (fun h => h) d1
          generalize ps[q] = pr at *
          obtain ⟨p0, p1⟩ := pr
          dsimp only at hbq nb e0 e1
          obtain ⟨hp0, hp1⟩ := hbq
          have aD := blk_new wr (.cells #[.int .i64 (p0 : Int), .int .i64 (p1 : Int)] 43)
          have lG := hide (hG.out.chg (al wr (.cells #[.int .i64 (p0 : Int), .int .i64 (p1 : Int)] 43)) (fun _ _ _ h => h))
          have lC := hide (hC.out.trans (al wr (.cells #[.int .i64 (p0 : Int), .int .i64 (p1 : Int)] 43)))
          have dne : ¬ wr.heap.size = gs p0 := by have := (hG.out.rows p0 hp0).lt; omega
          clear d0 d1 hpc
          go_wp2_with fail
          generalize (wr.alloc (Obj.cells #[Value.int IntKind.i64 (p0 : Int), Value.int IntKind.i64 (p1 : Int)] 43)) = W1 at *
          generalize wr.heap.size = D at *
          have c0' : W1.cell? ⟨D, 0, none⟩ = some (.int .i64 (p0 : Int)) := blk_cell aD 0
          have c1' : W1.cell? ⟨D, 1, none⟩ = some (.int .i64 (p1 : Int)) := blk_cell aD 1
          have cL := lG.out.cell hp0
          have i0 : (0 : Int) ≤ (p0 : Int) := by omega
          have i1 : (p0 : Int) < (k : Int) := by omega
          have pt := hide (fun w' h => put_any (gs p0) m m p1 (W p0) (HM.out _ hp1) (by omega) w' h)
          go_region_held3 (fun w' => w'.cell? ⟨D, 0, none⟩ = some (.int .i64 (p0 : Int)) ∧ w'.cell? ⟨D, 1, none⟩ = some (.int .i64 (p1 : Int)) ∧ w'.cell? ⟨L, p0, none⟩ = some (.slice (some ⟨gs p0, 0, none⟩) m m))
            (go_keep)
            (first
              | (go_at_call 41; refine (pt.out W1.drew ((lG.out.chg (S := fun _ => False) (Chg.refl _ _).drew (fun _ _ _ h => h)).rows p0 hp0)).mono ?_; rintro e w5 ⟨rfl, r5, g5⟩; have f0 : w5.cell? ⟨D, 0, none⟩ = some (.int .i64 (p0 : Int)) := g5.cell dne c0'; have f1 : w5.cell? ⟨D, 1, none⟩ = some (.int .i64 (p1 : Int)) := g5.cell dne c1'; have f2 : w5.cell? ⟨L, p0, none⟩ = some (.slice (some ⟨gs p0, 0, none⟩) m m) := g5.cell (fun e => lG.out.ne p0 hp0 e.symm) cL))
          have n1 := hide ((lG.out.chg (S := fun _ => False) (Chg.refl _ _).drew (fun _ _ _ h => h)).row hp0 r5 g5)
          have n2 : Hid (Chg (fun _ => False) w w5) := hide (by
            have hf : Chg (fun b => B ≤ b) w w5 := lC.out.none.drew.trans (g5.mono (fun b _ h => by rw [h]; exact lG.out.bg p0 hp0))
            exact hf.mono (fun b hb h => by have := HBw.out; omega))
          clear f0 f1 f2 c0' c1' cL r5 g5 pt lG lC aD
          go_wp2_with fail
          go_roundw
          case rel => exact ⟨q + 1, _, by omega, by go_num, n1, nb, n2⟩
          case measure => simp [intOf]; omega
        · have hqn : q = ps.length := by omega
          subst hqn
          have hB0 : Hid (Bits k W (fun i j => Path ps 0 i j)) := hide (fun i j hi hj => by
            have h : bitAt (W i) j = true ↔ (i, j) ∈ ps.take ps.length := hBt.out i j hi hj
            rw [h, List.take_length]
            exact path_zero.symm)
          have G1 := hG
          have C1 := hC
          clear hG hC hBt hlt hq
          go_wp2_with fail
          clear x1 x5
          go_loopw [49] (fun iv wr => ∃ (c : Nat) (W : Nat → Nat → Nat), c ≤ k ∧ iv = .int .i64 c ∧ Hid (Grid wr B L k m k gs W) ∧ Hid (Bits k W (fun i j => Path ps c i j)) ∧ Hid (Chg (fun _ => False) w wr)) (fun iv _ => k - (intOf iv).toNat)
          case atStart => exact ⟨0, _, Nat.zero_le _, rfl, G1, hB0, C1⟩
          case round =>
            clear G1 C1 hB0
            obtain ⟨c, W1, hc, rfl, G2, B2, C2⟩ := hrel
            by_cases hlc : c < k
            · have M2 : Hid (Bits k W1 (Mid ps c 0)) := hide (fun i j hi hj => by
                have h : bitAt (W1 i) j = true ↔ Path ps c i j := B2.out i j hi hj
                rw [h]
                unfold Mid
                rw [if_neg (Nat.not_lt_zero _)])
              have i2 : (0 : Int) ≤ (c : Int) := by omega
              have i3 : (c : Int) < (k : Int) := by omega
              clear B2
              go_wp2_with fail
              go_loopw [54] (fun iv wr => ∃ (i : Nat) (W : Nat → Nat → Nat), i ≤ k ∧ iv = .int .i64 i ∧ Hid (Grid wr B L k m k gs W) ∧ Hid (Bits k W (Mid ps c i)) ∧ Hid (Chg (fun _ => False) w wr)) (fun iv _ => k - (intOf iv).toNat)
              case atStart => exact ⟨0, _, Nat.zero_le _, rfl, G2, M2, C2⟩
              case round =>
                clear G2 C2 M2
                obtain ⟨i, W2, hi, rfl, G3, M3, C3⟩ := hrel
                by_cases hli : i < k
                · have cI := G3.out.cell hli
                  have cC := G3.out.cell hlc
                  have i4 : (0 : Int) ≤ (i : Int) := by omega
                  have i5 : (i : Int) < (k : Int) := by omega
                  have hs := hide (has_any (gs i) m m c (W2 i) (HM.out _ hlc) (by omega) _ (G3.out.rows i hli))
                  have jn := hide (fun w' h => join_any w' B L k m gs W2 h i c m m hli hlc hm2)
                  have my := hide (fun hb => mid_yes M3.out hli hlc hb)
                  have mn := hide (fun hb => mid_no M3.out hli hlc hb)
                  generalize bitAt (W2 i) c = bt at *
                  cases bt
                  · have M4 := hide (mn.out rfl)
                    clear my mn jn
                    go_wp2_with fail
                    refine hs.out.mono ?_
                    rintro e w5 ⟨rfl, rfl⟩
                    go_wp2_with fail
                    go_roundw
                    case rel => exact ⟨i + 1, _, by omega, by go_num, G3, M4, C3⟩
                    case measure => simp [intOf]; omega
                  · have M4 := hide (my.out rfl)
                    clear my mn
                    go_wp2_with fail
                    refine hs.out.mono ?_
                    rintro e w5 ⟨rfl, rfl⟩
                    go_wp2_with fail
                    go_region_held3 (fun w' => w'.cell? ⟨L, i, none⟩ = some (.slice (some ⟨gs i, 0, none⟩) m m) ∧ w'.cell? ⟨L, c, none⟩ = some (.slice (some ⟨gs c, 0, none⟩) m m))
                      (go_keep)
                      (first
                        | (go_at_call 42; refine (jn.out _ (G3.out.chg (S := fun _ => False) (Chg.refl _ _).drew (fun _ _ _ h => h))).mono ?_; rintro e w6 ⟨rfl, r6, g6⟩; have f0 : w6.cell? ⟨L, i, none⟩ = some (.slice (some ⟨gs i, 0, none⟩) m m) := g6.cell (fun e => G3.out.ne i hli e.symm) cI; have f1 : w6.cell? ⟨L, c, none⟩ = some (.slice (some ⟨gs c, 0, none⟩) m m) := g6.cell (fun e => G3.out.ne i hli e.symm) cC))
                    have G4 := hide ((G3.out.chg (S := fun _ => False) (Chg.refl _ _).drew (fun _ _ _ h => h)).row hli r6 g6)
                    have C4 : Hid (Chg (fun _ => False) w w6) := hide (by
                      have hf : Chg (fun b => B ≤ b) w w6 := C3.out.none.drew.trans (g6.mono (fun b _ h => by rw [h]; exact G3.out.bg i hli))
                      exact hf.mono (fun b hb h => by have := HBw.out; omega))
                    clear f0 f1 r6 g6 jn hs cI cC
                    go_wp2_with fail
                    go_roundw
                    case rel => exact ⟨i + 1, _, by omega, by go_num, G4, M4, C4⟩
                    case measure => simp [intOf]; omega
                · have hik : i = k := by omega
                  subst hik
                  have B4 : Hid (Bits i W2 (fun a j => Path ps (c + 1) a j)) := hide (fun a j ha hj => by
                    have h : bitAt (W2 a) j = true ↔ Mid ps c i a j := M3.out a j ha hj
                    rw [h]
                    unfold Mid
                    rw [if_pos ha])
                  clear M3 i2 i3
                  go_wp2_with fail
                  go_roundw
                  case rel => exact ⟨c + 1, _, by omega, by go_num, G3, B4, C3⟩
                  case measure => simp [intOf]; omega
            · have hck : c = k := by omega
              subst hck
              have B5 : Hid (Bits c W1 (Reach ps)) := hide (fun i j hi hj => by
                have h : bitAt (W1 i) j = true ↔ Path ps c i j := B2.out i j hi hj
                rw [h]
                exact path_reach HB.out)
              have x1 := C2.out.cell (fun h => h) HP.out
              have r1 := HR.out.chg C2.out (fun h => h)
              have x6 : wr.cell? ⟨b, 6, none⟩ = some rv := blk_cell r1 6
              have z6 : wr.frozen? ⟨b, 6, none⟩ = false := blk_free r1 6
              have R5 : Hid (Rk (wr.setCell ⟨b, 6, none⟩ (.slice (some ⟨L, 0, none⟩) c c)) b c (.slice a ps.length cap) mv 0 1 (.slice (some ⟨L, 0, none⟩) c c) kk sv) := hide (blk_set r1 6 _)
              have G5 := hide (G2.out.chg (Chg.set wr b 6 (.slice (some ⟨L, 0, none⟩) c c)) (fun x h _ e => by omega))
              have C5 := hide (C2.out.none.trans (Chg.set wr b 6 (.slice (some ⟨L, 0, none⟩) c c)))
              clear r1 G2 C2 B2
              go_wp2_with fail
              go_end0
              exact ⟨rfl, L, gs, W1, R5.out, by rw [← HBw.out]; exact G5.out, B5.out, C5.out⟩
end Go.Proofs.Ytdcpcemihpkkaaa
