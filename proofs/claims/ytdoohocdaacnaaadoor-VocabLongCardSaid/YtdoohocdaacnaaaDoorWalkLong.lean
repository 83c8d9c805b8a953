/- VocabLong's walk. -/
import Derived.Test.YtdoohocdaacnaaaDoorLongLaw
import Derived.Test.YtdoohocdaacnaaaDoorLaid
import Derived.Deep.AppendLies
namespace Go.Proofs.YtdoohocdaacnaaaDoor
open Go.RowKit Go.Maps
set_option linter.unusedVariables false
set_option linter.unusedSimpArgs false

theorem rem_nat (n : Int) (k : Nat) (hk : 0 < k) (hk2 : k ≤ 100) : ∃ a : Nat, a < k ∧ wrap64 ((IntKind.u64.wrap n).tmod (k : Int)) = (a : Int) := by
  have h0 : 0 ≤ IntKind.u64.wrap n := by simp [IntKind.wrap, IntKind.bits, IntKind.signed]; omega
  rw [Int.tmod_eq_emod_of_nonneg h0]
  have h1 := Int.emod_nonneg (IntKind.u64.wrap n) (show (k : Int) ≠ 0 by omega)
  have h2 := Int.emod_lt_of_pos (IntKind.u64.wrap n) (show (0 : Int) < k by omega)
  generalize IntKind.u64.wrap n % (k : Int) = x at *
  refine ⟨x.toNat, by omega, ?_⟩
  unfold wrap64
  omega

abbrev strV (l : List ByteArray) : List Value := l.map Value.string
/-- what the first loop keeps -/
def LInv1 (w1 wr : World) (O bo i : Nat) : Prop :=
  ∃ u, Hid (wr.heap[O]? = some (.cells #[u, .slice none 0 0] 26)) ∧ Hid (wr.ownsRow bo 9 1 u i (strV (bsW i))) ∧ Hid (bo ≤ wr.heap.size) ∧ Hid (Chg (fun x => x = O) w1 wr)
def cvs (n m : Nat) : List Cv := (List.range m).map fun i => (wd (n + i), .slice none 0 0, 0)
theorem cvs_len (n m : Nat) : (cvs n m).length = m := by simp [cvs]
theorem cvs_snoc (n m : Nat) : cvs n (m + 1) = cvs n m ++ [(wd (n + m), .slice none 0 0, 0)] := by simp [cvs, List.range_succ]
theorem cvs_cells (n m : Nat) : cellsC (cvs n (m + 1)) = cellsC (cvs n m) ++ [.string (wd (n + m)), .slice none 0 0, .int .i64 0] := by
  rw [cvs_snoc, cellsC_app]
  congr 1
def LInv2 (w1 wr : World) (O bo n i : Nat) (u : Value) : Prop :=
  ∃ v, Hid (wr.heap[O]? = some (.cells #[u, v] 26)) ∧ Hid (wr.ownsRow bo 32 3 v i (cellsC (cvs n i))) ∧ Hid (bo ≤ wr.heap.size) ∧ Hid (Chg (fun x => x = O) w1 wr)
theorem own_strs {w : World} {bo n : Nat} {u : Value} (h : w.ownsRow bo 9 1 u n (strV (bsW n))) : Strs w (fun x => bo ≤ x ∧ x < w.heap.size) u (bsW n) := by
  refine ⟨fun s hs => ?_, ?_⟩
  · unfold bsW at hs
    obtain ⟨i, _, rfl⟩ := List.mem_map.1 hs
    rw [wd_size]; decide
  · rcases h.2 with ⟨rfl, h3⟩ | ⟨g, cap, cur, rfl, h3⟩
    · exact ⟨none, 0, by rw [bsW_len, h3], Or.inl (List.eq_nil_of_length_eq_zero (by rw [bsW_len]; exact h3))⟩
    · refine ⟨_, cap, by rw [bsW_len], Or.inr ⟨g, 0, rfl, ⟨h3.1, blk_lt h3.2.1⟩, fun i hi => ?_⟩⟩
      have hc := World.ownsRow.cells h (g := g) rfl i (.string ((bsW n)[i])) (by simp [strV, hi])
      rw [add_at, Nat.zero_add] at hc
      rw [Nat.zero_add]; exact hc
theorem own_cns {w : World} {bo n m : Nat} {v : Value} (h : w.ownsRow bo 32 3 v m (cellsC (cvs n m))) : Cns w (fun x => bo ≤ x ∧ x < w.heap.size) v (csW n m) := by
  have h' : CAcc w bo v (cvs n m) := by unfold CAcc; rw [cvs_len]; exact h
  refine cacc_cns h' (fun r e => World.ownsRow.lt h r e) (fun c hc => ?_) (by rw [csW_len, cvs_len]) (fun i h1 h2 => ?_)
  · unfold csW at hc
    obtain ⟨i, _, rfl⟩ := List.mem_map.1 hc
    exact ⟨by rw [wd_size]; decide, Nat.zero_le _⟩
  · have e1 : (csW n m)[i] = (wd (n + i), Fs.nil, 0) := by simp [csW]
    have e2 : (cvs n m)[i] = (wd (n + i), .slice none 0 0, 0) := by simp [cvs]
    rw [e1, e2]
    exact ⟨rfl, rfl, Ts.nil _ _⟩

set_option maxRecDepth 100000 in
set_option maxHeartbeats 32000000 in
theorem long_walk (n m : Int) (w : World) : Calls Tryd.prog 3 #[.int .i64 n, .int .i64 m] w fun e w' => e = .returned (.bool true) ∧ Chg (fun _ => False) w w' := by
  obtain ⟨i9, hi9, hz90, hz91, hz92⟩ := info_parts info9
  obtain ⟨i0, hi0, hz0, hz1, hz2⟩ := info_parts info32
  obtain ⟨a, ha, ea⟩ := rem_nat n 3 (by omega) (by omega)
  obtain ⟨c, hc, ec⟩ := rem_nat m 5 (by omega) (by omega)
  obtain ⟨b, hb⟩ : ∃ b : Nat, b + a = 998 + c := ⟨998 - a + c, by omega⟩
  have eb : 998 - (a : Int) + (c : Int) = (b : Int) := by omega
  have hb1 : b ≤ 1002 := by omega
  have ea : wrap64 ((IntKind.u64.wrap n).tmod 3) = (a : Int) := ea
  have ec : wrap64 ((IntKind.u64.wrap m).tmod 5) = (c : Int) := ec
  have BO := hide (blk_new w (.cells #[.slice none 0 0, .slice none 0 0] 26))
  have G1 := hide (al w (.cells #[.slice none 0 0, .slice none 0 0] 26))
  have S1 := hide (al_sz w (.cells #[.slice none 0 0, .slice none 0 0] 26))
  go_enter Tryd.func3, Tryd.ntmps3
  go_wp2_with fail
  simp only [ea, ec]
  clear ea ec eb
  obtain ⟨O, hO⟩ : ∃ O, w.heap.size = O := ⟨_, rfl⟩
  rw [hO] at BO S1 ⊢
  generalize w.alloc (.cells #[.slice none 0 0, .slice none 0 0] 26) = w1 at *
  have HO := hide hO
  clear hO
  go_loopw [6] (fun iv wr => ∃ i : Nat, i ≤ a ∧ iv = .int .i64 i ∧ Hid (LInv1 w1 wr O (O + 1) i)) (fun iv _ => a - (intOf iv).toNat)
  case atStart => exact ⟨0, Nat.zero_le _, rfl, _, BO, ⟨rfl, Or.inl ⟨rfl, rfl⟩⟩, Nat.le_of_eq S1.out.symm, Chg.refl _ _⟩
  case round =>
    clear BO
    obtain ⟨i, hi, rfl, hIN⟩ := hrel
    obtain ⟨u, hT, hA, hZ, hC⟩ := hIN.out
    clear hIN
    by_cases hlt : i < a
    · have zO := blk_cell hT.out 0
      simp only [List.getElem?_toArray, List.getElem?_cons_zero, List.getElem?_cons_succ] at zO
      have i2 : (i : Int) < (a : Int) := by omega
      have wo := hide (word_any i (by omega) wr.drew)
      have RL := hide (fun r (e : u.ownBlock = some r) => World.ownsRow.lt hA.out r e)
      have SN := hide (bsW_snoc i)
      go_wp2_with fail
      refine wp_region_held_drew (S := (fun _ => True)) (by kernel_rfl) trivial (fun hHeld => ?_)
      first
        | (refine wpAnyH_take (i := 0) (v := undef) rfl (by kernel_rfl) (by kernel_rfl) (by kernel_rfl) (fun _ _ _ h => h) (Or.inr ⟨by rfl, rfl⟩) (by assumption) ?_)
        | (refine wpAnyH_take (i := 0) (v := ?_) rfl (by kernel_rfl) (by kernel_rfl) (by kernel_rfl) (fun _ _ _ h => h) (Or.inl ⟨by rfl, ?_⟩) (by assumption) ?_
           rotate_left
           (intro w hSw
            (try dsimp only at hSw)
            (go_simp <;> with_reducible rfl)))
      try simp only [Act.put, List.getElem_toArray, List.getElem_cons_zero, List.getElem_cons_succ, List.setIfInBounds_toArray, List.set_cons_zero, List.set_cons_succ]
      first
        | (refine wpAnyH_take (i := 2) (v := undef) rfl (by kernel_rfl) (by kernel_rfl) (by kernel_rfl) (fun _ _ _ h => h) (Or.inr ⟨by rfl, rfl⟩) (by assumption) ?_)
        | (refine wpAnyH_take (i := 2) (v := ?_) rfl (by kernel_rfl) (by kernel_rfl) (by kernel_rfl) (fun _ _ _ h => h) (Or.inl ⟨by rfl, ?_⟩) (by assumption) ?_
           rotate_left
           (intro w hSw
            (try dsimp only at hSw)
            (go_simp <;> with_reducible rfl)))
      try simp only [Act.put, List.getElem_toArray, List.getElem_cons_zero, List.getElem_cons_succ, List.setIfInBounds_toArray, List.set_cons_zero, List.set_cons_succ]
      refine wpAnyH_ready (rs := [1, 3]) (by kernel_rfl) (by simp) ?_
      refine AllReadyH.cons (i := 1) (o := _) rfl (fun K hK => ?_) ?_
      · go_simp
        refine hK.out _ _ trivial (fun hHeld => ?_)
        clear hK K
        try simp only [Act.put, List.getElem_toArray, List.getElem_cons_zero, List.getElem_cons_succ, List.setIfInBounds_toArray, List.set_cons_zero, List.set_cons_succ]
        refine wpAnyH_ready (rs := [3]) (by kernel_rfl) (by simp) ?_
        refine AllReadyH.cons (i := 3) (o := _) rfl (fun K hK => ?_) ?_
        rotate_left
        · exact AllReadyH.nil
        go_simp
        refine wo.out.mono ?_
        rintro e w6 ⟨rfl, g6'⟩
        have g6 := (Chg.refl (fun _ => False) wr).drew.trans g6'
        have zO6 := g6.cell (fun h => h) zO
        have G7 := al w6 (.cells #[.string (wd i)] 9)
        have zO7 := G7.cell (fun h => h) zO6
        have HT7 := hide (G7.blk (fun h => h) (g6.blk (fun h => h) hT.out))
        have A7 := hide (own_chg (own_chg hA.out g6 (fun x hx h => h)) G7 (fun x hx h => h))
        have C7 := hide ((hC.out.trans g6.none).trans G7.none)
        have Z7 := hide (Nat.le_trans hZ.out (Nat.le_trans g6.size G7.size))
        have NB := hide (World.news_of_block (cs := #[.string (wd i)]) (t := 9) (fr := (0, 0)) (heap_alloc_new w6 _))
        clear g6 g6' G7
        go_simp
        refine hK.out _ _ trivial (fun hHeld => ?_)
        clear hK K
        try simp only [Act.put, List.getElem_toArray, List.getElem_cons_zero, List.getElem_cons_succ, List.setIfInBounds_toArray, List.set_cons_zero, List.set_cons_succ]
        refine wpAnyH_ready (rs := [4]) (by kernel_rfl) (by simp) ?_
        refine AllReadyH.cons (i := 4) (o := _) rfl (fun K hK => ?_) ?_
        rotate_left
        · exact AllReadyH.nil
        go_simp
        refine hK.out _ _ trivial (fun hHeld => ?_)
        clear hK K
        try simp only [Act.put, List.getElem_toArray, List.getElem_cons_zero, List.getElem_cons_succ, List.setIfInBounds_toArray, List.set_cons_zero, List.set_cons_succ]
        refine wpAnyH_ready (rs := [5]) (by kernel_rfl) (by simp) ?_
        refine AllReadyH.cons (i := 5) (o := _) rfl (fun K hK => ?_) ?_
        rotate_left
        · exact AllReadyH.nil
        refine step_append_lies _ (by rfl) _ _ _ (by rfl) (O + 1) 9 i9 (.string ⟨#[]⟩) 1 16 Tryd.underlying23 hi9 hz90 hz91 hz92 rfl (by omega) _ i (strV (bsW i)) (by rfl) A7.out ⟨w6.heap.size, 0, none⟩ 1 1 [.string (wd i)] (by rfl) (by rfl) NB.out (by simp [Value.oneCell']) (by omega) (by simp [maxLen]; omega) (by omega) Z7.out (w6.heap.size + 1) (by simp) ?_
        intro gg cap2 w8 hown hgrow hgat hglt
        have GR := (Chg.refl (fun x => u.ownBlock = some x) (w6.alloc (.cells #[.string (wd i)] 9))).grown hgrow (fun r e => Or.inl e)
        have nO : ¬ u.ownBlock = some O := fun e => by have := (RL.out O e).1; omega
        have T8 := GR.blk nO HT7.out
        have zO8 := blk_cell T8 0
        have fO8 := blk_free T8 0
        simp only [List.getElem?_toArray, List.getElem?_cons_zero, List.getElem?_cons_succ] at zO8
        have G9 := Chg.set w8 O 0 (.slice (some ⟨gg, 0, none⟩) (i + 1) cap2)
        have T9 : Hid ((w8.setCell ⟨O, 0, none⟩ (.slice (some ⟨gg, 0, none⟩) (i + 1) cap2)).heap[O]? = some (.cells #[.slice (some ⟨gg, 0, none⟩) (i + 1) cap2, .slice none 0 0] 26)) := hide (blk_set T8 0 (.slice (some ⟨gg, 0, none⟩) (i + 1) cap2))
        have A9 : Hid ((w8.setCell ⟨O, 0, none⟩ (.slice (some ⟨gg, 0, none⟩) (i + 1) cap2)).ownsRow (O + 1) 9 1 (.slice (some ⟨gg, 0, none⟩) (i + 1) cap2) (i + 1) (strV (bsW (i + 1)))) := hide (by
          have h1 := own_chg hown G9 (fun x hx e => by omega)
          rw [SN.out]
          unfold strV at *
          rw [List.map_append]
          exact h1)
        have Z9 := hide (Nat.le_trans Z7.out (Nat.le_trans GR.size G9.size))
        have C9 : Hid (Chg (fun x => x = O) w1 (w8.setCell ⟨O, 0, none⟩ (.slice (some ⟨gg, 0, none⟩) (i + 1) cap2))) := hide (by
          have h1 : Chg (fun x => x = O ∨ O + 1 ≤ x) w1 _ := ((C7.out.mono (fun x _ h => Or.inl h)).trans (GR.mono (fun x _ h => Or.inr (RL.out x h).1))).trans (G9.mono (fun x _ h => Or.inl h))
          exact h1.mono (fun x hx h => by have := S1.out; omega))
        have F9 : Hid (LInv1 w1 (w8.setCell ⟨O, 0, none⟩ (.slice (some ⟨gg, 0, none⟩) (i + 1) cap2)) O (O + 1) (i + 1)) := hide ⟨_, T9, A9, Z9, C9⟩
        clear GR T8 G9 hown hgrow hgat nO T9 A9 Z9 C9
        refine hK.out _ _ trivial (fun hHeld => ?_)
        clear hK K
        try simp only [Act.put, List.getElem_toArray, List.getElem_cons_zero, List.getElem_cons_succ, List.setIfInBounds_toArray, List.set_cons_zero, List.set_cons_succ]
        first
          | (refine wpAnyH_take (i := 6) (v := undef) rfl (by kernel_rfl) (by kernel_rfl) (by kernel_rfl) (fun _ _ _ h => h) (Or.inr ⟨by rfl, rfl⟩) (by assumption) ?_)
          | (refine wpAnyH_take (i := 6) (v := ?_) rfl (by kernel_rfl) (by kernel_rfl) (by kernel_rfl) (fun _ _ _ h => h) (Or.inl ⟨by rfl, ?_⟩) (by assumption) ?_
             rotate_left
             (intro w hSw
              (try dsimp only at hSw)
              (go_simp <;> with_reducible rfl)))
        try simp only [Act.put, List.getElem_toArray, List.getElem_cons_zero, List.getElem_cons_succ, List.setIfInBounds_toArray, List.set_cons_zero, List.set_cons_succ]
        refine wpAnyH_ready (rs := [7]) (by kernel_rfl) (by simp) ?_
        refine AllReadyH.cons (i := 7) (o := _) rfl (fun K hK => ?_) ?_
        rotate_left
        · exact AllReadyH.nil
        go_simp
        refine hK.out _ _ trivial (fun hHeld => ?_)
        clear hK K
        try simp only [Act.put, List.getElem_toArray, List.getElem_cons_zero, List.getElem_cons_succ, List.setIfInBounds_toArray, List.set_cons_zero, List.set_cons_succ]
        refine wpAnyH_done (by kernel_rfl) ?_ _
        go_wp2_with fail
        go_roundw
        case rel => exact ⟨i + 1, by omega, by go_num, F9⟩
        case measure => simp [intOf]; omega
      refine AllReadyH.cons (i := 3) (o := _) rfl (fun K hK => ?_) ?_
      rotate_left
      · exact AllReadyH.nil
      go_simp
      refine wo.out.mono ?_
      rintro e w6 ⟨rfl, g6'⟩
      have g6 := (Chg.refl (fun _ => False) wr).drew.trans g6'
      have zO6 := g6.cell (fun h => h) zO
      have G7 := al w6 (.cells #[.string (wd i)] 9)
      have zO7 := G7.cell (fun h => h) zO6
      have HT7 := hide (G7.blk (fun h => h) (g6.blk (fun h => h) hT.out))
      have A7 := hide (own_chg (own_chg hA.out g6 (fun x hx h => h)) G7 (fun x hx h => h))
      have C7 := hide ((hC.out.trans g6.none).trans G7.none)
      have Z7 := hide (Nat.le_trans hZ.out (Nat.le_trans g6.size G7.size))
      have NB := hide (World.news_of_block (cs := #[.string (wd i)]) (t := 9) (fr := (0, 0)) (heap_alloc_new w6 _))
      clear g6 g6' G7
      go_simp
      refine hK.out _ _ trivial (fun hHeld => ?_)
      clear hK K
      try simp only [Act.put, List.getElem_toArray, List.getElem_cons_zero, List.getElem_cons_succ, List.setIfInBounds_toArray, List.set_cons_zero, List.set_cons_succ]
      refine wpAnyH_ready (rs := [1, 4]) (by kernel_rfl) (by simp) ?_
      refine AllReadyH.cons (i := 1) (o := _) rfl (fun K hK => ?_) ?_
      · go_simp
        refine hK.out _ _ trivial (fun hHeld => ?_)
        clear hK K
        try simp only [Act.put, List.getElem_toArray, List.getElem_cons_zero, List.getElem_cons_succ, List.setIfInBounds_toArray, List.set_cons_zero, List.set_cons_succ]
        refine wpAnyH_ready (rs := [4]) (by kernel_rfl) (by simp) ?_
        refine AllReadyH.cons (i := 4) (o := _) rfl (fun K hK => ?_) ?_
        rotate_left
        · exact AllReadyH.nil
        go_simp
        refine hK.out _ _ trivial (fun hHeld => ?_)
        clear hK K
        try simp only [Act.put, List.getElem_toArray, List.getElem_cons_zero, List.getElem_cons_succ, List.setIfInBounds_toArray, List.set_cons_zero, List.set_cons_succ]
        refine wpAnyH_ready (rs := [5]) (by kernel_rfl) (by simp) ?_
        refine AllReadyH.cons (i := 5) (o := _) rfl (fun K hK => ?_) ?_
        rotate_left
        · exact AllReadyH.nil
        refine step_append_lies _ (by rfl) _ _ _ (by rfl) (O + 1) 9 i9 (.string ⟨#[]⟩) 1 16 Tryd.underlying23 hi9 hz90 hz91 hz92 rfl (by omega) _ i (strV (bsW i)) (by rfl) A7.out ⟨w6.heap.size, 0, none⟩ 1 1 [.string (wd i)] (by rfl) (by rfl) NB.out (by simp [Value.oneCell']) (by omega) (by simp [maxLen]; omega) (by omega) Z7.out (w6.heap.size + 1) (by simp) ?_
        intro gg cap2 w8 hown hgrow hgat hglt
        have GR := (Chg.refl (fun x => u.ownBlock = some x) (w6.alloc (.cells #[.string (wd i)] 9))).grown hgrow (fun r e => Or.inl e)
        have nO : ¬ u.ownBlock = some O := fun e => by have := (RL.out O e).1; omega
        have T8 := GR.blk nO HT7.out
        have zO8 := blk_cell T8 0
        have fO8 := blk_free T8 0
        simp only [List.getElem?_toArray, List.getElem?_cons_zero, List.getElem?_cons_succ] at zO8
        have G9 := Chg.set w8 O 0 (.slice (some ⟨gg, 0, none⟩) (i + 1) cap2)
        have T9 : Hid ((w8.setCell ⟨O, 0, none⟩ (.slice (some ⟨gg, 0, none⟩) (i + 1) cap2)).heap[O]? = some (.cells #[.slice (some ⟨gg, 0, none⟩) (i + 1) cap2, .slice none 0 0] 26)) := hide (blk_set T8 0 (.slice (some ⟨gg, 0, none⟩) (i + 1) cap2))
        have A9 : Hid ((w8.setCell ⟨O, 0, none⟩ (.slice (some ⟨gg, 0, none⟩) (i + 1) cap2)).ownsRow (O + 1) 9 1 (.slice (some ⟨gg, 0, none⟩) (i + 1) cap2) (i + 1) (strV (bsW (i + 1)))) := hide (by
          have h1 := own_chg hown G9 (fun x hx e => by omega)
          rw [SN.out]
          unfold strV at *
          rw [List.map_append]
          exact h1)
        have Z9 := hide (Nat.le_trans Z7.out (Nat.le_trans GR.size G9.size))
        have C9 : Hid (Chg (fun x => x = O) w1 (w8.setCell ⟨O, 0, none⟩ (.slice (some ⟨gg, 0, none⟩) (i + 1) cap2))) := hide (by
          have h1 : Chg (fun x => x = O ∨ O + 1 ≤ x) w1 _ := ((C7.out.mono (fun x _ h => Or.inl h)).trans (GR.mono (fun x _ h => Or.inr (RL.out x h).1))).trans (G9.mono (fun x _ h => Or.inl h))
          exact h1.mono (fun x hx h => by have := S1.out; omega))
        have F9 : Hid (LInv1 w1 (w8.setCell ⟨O, 0, none⟩ (.slice (some ⟨gg, 0, none⟩) (i + 1) cap2)) O (O + 1) (i + 1)) := hide ⟨_, T9, A9, Z9, C9⟩
        clear GR T8 G9 hown hgrow hgat nO T9 A9 Z9 C9
        refine hK.out _ _ trivial (fun hHeld => ?_)
        clear hK K
        try simp only [Act.put, List.getElem_toArray, List.getElem_cons_zero, List.getElem_cons_succ, List.setIfInBounds_toArray, List.set_cons_zero, List.set_cons_succ]
        first
          | (refine wpAnyH_take (i := 6) (v := undef) rfl (by kernel_rfl) (by kernel_rfl) (by kernel_rfl) (fun _ _ _ h => h) (Or.inr ⟨by rfl, rfl⟩) (by assumption) ?_)
          | (refine wpAnyH_take (i := 6) (v := ?_) rfl (by kernel_rfl) (by kernel_rfl) (by kernel_rfl) (fun _ _ _ h => h) (Or.inl ⟨by rfl, ?_⟩) (by assumption) ?_
             rotate_left
             (intro w hSw
              (try dsimp only at hSw)
              (go_simp <;> with_reducible rfl)))
        try simp only [Act.put, List.getElem_toArray, List.getElem_cons_zero, List.getElem_cons_succ, List.setIfInBounds_toArray, List.set_cons_zero, List.set_cons_succ]
        refine wpAnyH_ready (rs := [7]) (by kernel_rfl) (by simp) ?_
        refine AllReadyH.cons (i := 7) (o := _) rfl (fun K hK => ?_) ?_
        rotate_left
        · exact AllReadyH.nil
        go_simp
        refine hK.out _ _ trivial (fun hHeld => ?_)
        clear hK K
        try simp only [Act.put, List.getElem_toArray, List.getElem_cons_zero, List.getElem_cons_succ, List.setIfInBounds_toArray, List.set_cons_zero, List.set_cons_succ]
        refine wpAnyH_done (by kernel_rfl) ?_ _
        go_wp2_with fail
        go_roundw
        case rel => exact ⟨i + 1, by omega, by go_num, F9⟩
        case measure => simp [intOf]; omega
      refine AllReadyH.cons (i := 4) (o := _) rfl (fun K hK => ?_) ?_
      rotate_left
      · exact AllReadyH.nil
      go_simp
      refine hK.out _ _ trivial (fun hHeld => ?_)
      clear hK K
      try simp only [Act.put, List.getElem_toArray, List.getElem_cons_zero, List.getElem_cons_succ, List.setIfInBounds_toArray, List.set_cons_zero, List.set_cons_succ]
      refine wpAnyH_ready (rs := [1]) (by kernel_rfl) (by simp) ?_
      refine AllReadyH.cons (i := 1) (o := _) rfl (fun K hK => ?_) ?_
      rotate_left
      · exact AllReadyH.nil
      go_simp
      refine hK.out _ _ trivial (fun hHeld => ?_)
      clear hK K
      try simp only [Act.put, List.getElem_toArray, List.getElem_cons_zero, List.getElem_cons_succ, List.setIfInBounds_toArray, List.set_cons_zero, List.set_cons_succ]
      refine wpAnyH_ready (rs := [5]) (by kernel_rfl) (by simp) ?_
      refine AllReadyH.cons (i := 5) (o := _) rfl (fun K hK => ?_) ?_
      rotate_left
      · exact AllReadyH.nil
      refine step_append_lies _ (by rfl) _ _ _ (by rfl) (O + 1) 9 i9 (.string ⟨#[]⟩) 1 16 Tryd.underlying23 hi9 hz90 hz91 hz92 rfl (by omega) _ i (strV (bsW i)) (by rfl) A7.out ⟨w6.heap.size, 0, none⟩ 1 1 [.string (wd i)] (by rfl) (by rfl) NB.out (by simp [Value.oneCell']) (by omega) (by simp [maxLen]; omega) (by omega) Z7.out (w6.heap.size + 1) (by simp) ?_
      intro gg cap2 w8 hown hgrow hgat hglt
      have GR := (Chg.refl (fun x => u.ownBlock = some x) (w6.alloc (.cells #[.string (wd i)] 9))).grown hgrow (fun r e => Or.inl e)
      have nO : ¬ u.ownBlock = some O := fun e => by have := (RL.out O e).1; omega
      have T8 := GR.blk nO HT7.out
      have zO8 := blk_cell T8 0
      have fO8 := blk_free T8 0
      simp only [List.getElem?_toArray, List.getElem?_cons_zero, List.getElem?_cons_succ] at zO8
      have G9 := Chg.set w8 O 0 (.slice (some ⟨gg, 0, none⟩) (i + 1) cap2)
      have T9 : Hid ((w8.setCell ⟨O, 0, none⟩ (.slice (some ⟨gg, 0, none⟩) (i + 1) cap2)).heap[O]? = some (.cells #[.slice (some ⟨gg, 0, none⟩) (i + 1) cap2, .slice none 0 0] 26)) := hide (blk_set T8 0 (.slice (some ⟨gg, 0, none⟩) (i + 1) cap2))
      have A9 : Hid ((w8.setCell ⟨O, 0, none⟩ (.slice (some ⟨gg, 0, none⟩) (i + 1) cap2)).ownsRow (O + 1) 9 1 (.slice (some ⟨gg, 0, none⟩) (i + 1) cap2) (i + 1) (strV (bsW (i + 1)))) := hide (by
        have h1 := own_chg hown G9 (fun x hx e => by omega)
        rw [SN.out]
        unfold strV at *
        rw [List.map_append]
        exact h1)
      have Z9 := hide (Nat.le_trans Z7.out (Nat.le_trans GR.size G9.size))
      have C9 : Hid (Chg (fun x => x = O) w1 (w8.setCell ⟨O, 0, none⟩ (.slice (some ⟨gg, 0, none⟩) (i + 1) cap2))) := hide (by
        have h1 : Chg (fun x => x = O ∨ O + 1 ≤ x) w1 _ := ((C7.out.mono (fun x _ h => Or.inl h)).trans (GR.mono (fun x _ h => Or.inr (RL.out x h).1))).trans (G9.mono (fun x _ h => Or.inl h))
        exact h1.mono (fun x hx h => by have := S1.out; omega))
      have F9 : Hid (LInv1 w1 (w8.setCell ⟨O, 0, none⟩ (.slice (some ⟨gg, 0, none⟩) (i + 1) cap2)) O (O + 1) (i + 1)) := hide ⟨_, T9, A9, Z9, C9⟩
      clear GR T8 G9 hown hgrow hgat nO T9 A9 Z9 C9
      refine hK.out _ _ trivial (fun hHeld => ?_)
      clear hK K
      try simp only [Act.put, List.getElem_toArray, List.getElem_cons_zero, List.getElem_cons_succ, List.setIfInBounds_toArray, List.set_cons_zero, List.set_cons_succ]
      first
        | (refine wpAnyH_take (i := 6) (v := undef) rfl (by kernel_rfl) (by kernel_rfl) (by kernel_rfl) (fun _ _ _ h => h) (Or.inr ⟨by rfl, rfl⟩) (by assumption) ?_)
        | (refine wpAnyH_take (i := 6) (v := ?_) rfl (by kernel_rfl) (by kernel_rfl) (by kernel_rfl) (fun _ _ _ h => h) (Or.inl ⟨by rfl, ?_⟩) (by assumption) ?_
           rotate_left
           (intro w hSw
            (try dsimp only at hSw)
            (go_simp <;> with_reducible rfl)))
      try simp only [Act.put, List.getElem_toArray, List.getElem_cons_zero, List.getElem_cons_succ, List.setIfInBounds_toArray, List.set_cons_zero, List.set_cons_succ]
      refine wpAnyH_ready (rs := [7]) (by kernel_rfl) (by simp) ?_
      refine AllReadyH.cons (i := 7) (o := _) rfl (fun K hK => ?_) ?_
      rotate_left
      · exact AllReadyH.nil
      go_simp
      refine hK.out _ _ trivial (fun hHeld => ?_)
      clear hK K
      try simp only [Act.put, List.getElem_toArray, List.getElem_cons_zero, List.getElem_cons_succ, List.setIfInBounds_toArray, List.set_cons_zero, List.set_cons_succ]
      refine wpAnyH_done (by kernel_rfl) ?_ _
      go_wp2_with fail
      go_roundw
      case rel => exact ⟨i + 1, by omega, by go_num, F9⟩
      case measure => simp [intOf]; omega
    · have hif : i = a := by omega
      subst hif
      have zb : Hid (∃ ua uc, u = .slice ua i uc) := hide (by
        rcases hA.out.2 with ⟨h1, h2⟩ | ⟨g, cap2, cur, h1, _⟩
        · exact ⟨_, _, by rw [h1, h2]⟩
        · exact ⟨_, _, h1⟩)
      have ST := hide (own_strs hA.out)
      have BO2 := hT
      have C2 := hC
      have ZZ := hZ
      clear hT hA hZ hC
      go_wp2_with fail
      generalize wr = w2 at *
      obtain ⟨bo, hbo⟩ : ∃ bo, w2.heap.size = bo := ⟨_, rfl⟩
      have HB := hide hbo
      have HOb : Hid (O + 1 ≤ bo) := hide (by have := ZZ.out; omega)
      clear hbo
      go_loopw [7] (fun iv wr => ∃ j : Nat, j ≤ b ∧ iv = .int .i64 j ∧ Hid (LInv2 w2 wr O bo i j u)) (fun iv _ => b - (intOf iv).toNat)
      case atStart => exact ⟨0, Nat.zero_le _, rfl, _, BO2, ⟨rfl, Or.inl ⟨rfl, rfl⟩⟩, Nat.le_of_eq HB.out.symm, Chg.refl _ _⟩
      case round =>
        clear BO2
        obtain ⟨j, hj, rfl, hIN⟩ := hrel
        obtain ⟨v, hT, hA, hZ, hC⟩ := hIN.out
        clear hIN
        by_cases hlt : j < b
        · have zO := blk_cell hT.out 1
          simp only [List.getElem?_toArray, List.getElem?_cons_zero, List.getElem?_cons_succ] at zO
          have i2 : (j : Int) < (b : Int) := by omega
          obtain ⟨s, hs⟩ : ∃ s, wd (i + j) = s := ⟨_, rfl⟩
          obtain ⟨L1, hL1⟩ : ∃ L1, cellsC (cvs i j) = L1 := ⟨_, rfl⟩
          have wo : Hid (Calls Tryd.prog 8 #[.int .i64 (IntKind.i64.wrap ((i : Int) + (j : Int)))] wr.drew fun e w' => e = .returned (.string s) ∧ Chg (fun _ => False) wr.drew w') := hide (by
            have ew : IntKind.i64.wrap ((i : Int) + (j : Int)) = ((i + j : Nat) : Int) := by simp [IntKind.wrap, IntKind.bits, IntKind.signed]; omega
            have h := word_any (i + j) (by omega) wr.drew
            rw [hs] at h
            rw [ew]
            exact h)
          have RL := hide (fun r (e : v.ownBlock = some r) => World.ownsRow.lt hA.out r e)
          have SN : Hid (cellsC (cvs i (j + 1)) = L1 ++ [.string s, .slice none 0 0, .int .i64 0]) := hide (by rw [cvs_cells, hs, hL1])
          rw [hL1] at hA
          clear hs hL1
          go_wp2_with fail
          refine wp_region_held_drew (S := (fun _ => True)) (by kernel_rfl) trivial (fun hHeld => ?_)
          first
            | (refine wpAnyH_take (i := 0) (v := undef) rfl (by kernel_rfl) (by kernel_rfl) (by kernel_rfl) (fun _ _ _ h => h) (Or.inr ⟨by rfl, rfl⟩) (by assumption) ?_)
            | (refine wpAnyH_take (i := 0) (v := ?_) rfl (by kernel_rfl) (by kernel_rfl) (by kernel_rfl) (fun _ _ _ h => h) (Or.inl ⟨by rfl, ?_⟩) (by assumption) ?_
               rotate_left
               (intro w hSw
                (try dsimp only at hSw)
                (go_simp <;> with_reducible rfl)))
          try simp only [Act.put, List.getElem_toArray, List.getElem_cons_zero, List.getElem_cons_succ, List.setIfInBounds_toArray, List.set_cons_zero, List.set_cons_succ]
          first
            | (refine wpAnyH_take (i := 2) (v := undef) rfl (by kernel_rfl) (by kernel_rfl) (by kernel_rfl) (fun _ _ _ h => h) (Or.inr ⟨by rfl, rfl⟩) (by assumption) ?_)
            | (refine wpAnyH_take (i := 2) (v := ?_) rfl (by kernel_rfl) (by kernel_rfl) (by kernel_rfl) (fun _ _ _ h => h) (Or.inl ⟨by rfl, ?_⟩) (by assumption) ?_
               rotate_left
               (intro w hSw
                (try dsimp only at hSw)
                (go_simp <;> with_reducible rfl)))
          try simp only [Act.put, List.getElem_toArray, List.getElem_cons_zero, List.getElem_cons_succ, List.setIfInBounds_toArray, List.set_cons_zero, List.set_cons_succ]
          first
            | (refine wpAnyH_take (i := 3) (v := undef) rfl (by kernel_rfl) (by kernel_rfl) (by kernel_rfl) (fun _ _ _ h => h) (Or.inr ⟨by rfl, rfl⟩) (by assumption) ?_)
            | (refine wpAnyH_take (i := 3) (v := ?_) rfl (by kernel_rfl) (by kernel_rfl) (by kernel_rfl) (fun _ _ _ h => h) (Or.inl ⟨by rfl, ?_⟩) (by assumption) ?_
               rotate_left
               (intro w hSw
                (try dsimp only at hSw)
                (go_simp <;> with_reducible rfl)))
          try simp only [Act.put, List.getElem_toArray, List.getElem_cons_zero, List.getElem_cons_succ, List.setIfInBounds_toArray, List.set_cons_zero, List.set_cons_succ]
          first
            | (refine wpAnyH_take (i := 4) (v := undef) rfl (by kernel_rfl) (by kernel_rfl) (by kernel_rfl) (fun _ _ _ h => h) (Or.inr ⟨by rfl, rfl⟩) (by assumption) ?_)
            | (refine wpAnyH_take (i := 4) (v := ?_) rfl (by kernel_rfl) (by kernel_rfl) (by kernel_rfl) (fun _ _ _ h => h) (Or.inl ⟨by rfl, ?_⟩) (by assumption) ?_
               rotate_left
               (intro w hSw
                (try dsimp only at hSw)
                (go_simp <;> with_reducible rfl)))
          try simp only [Act.put, List.getElem_toArray, List.getElem_cons_zero, List.getElem_cons_succ, List.setIfInBounds_toArray, List.set_cons_zero, List.set_cons_succ]
          refine wpAnyH_ready (rs := [1, 5]) (by kernel_rfl) (by simp) ?_
          refine AllReadyH.cons (i := 1) (o := _) rfl (fun K hK => ?_) ?_
          · go_simp
            refine hK.out _ _ trivial (fun hHeld => ?_)
            clear hK K
            try simp only [Act.put, List.getElem_toArray, List.getElem_cons_zero, List.getElem_cons_succ, List.setIfInBounds_toArray, List.set_cons_zero, List.set_cons_succ]
            refine wpAnyH_ready (rs := [5]) (by kernel_rfl) (by simp) ?_
            refine AllReadyH.cons (i := 5) (o := _) rfl (fun K hK => ?_) ?_
            rotate_left
            · exact AllReadyH.nil
            go_simp
            refine wo.out.mono ?_
            rintro e w6 ⟨rfl, g6'⟩
            have g6 := (Chg.refl (fun _ => False) wr).drew.trans g6'
            have zO6 := g6.cell (fun h => h) zO
            have G7 := al w6 (.cells #[.string s, .slice none 0 0, .int .i64 0] 32)
            have zO7 := G7.cell (fun h => h) zO6
            have HT7 := hide (G7.blk (fun h => h) (g6.blk (fun h => h) hT.out))
            have A7 := hide (own_chg (own_chg hA.out g6 (fun x hx h => h)) G7 (fun x hx h => h))
            have C7 := hide ((hC.out.trans g6.none).trans G7.none)
            have Z7 := hide (Nat.le_trans hZ.out (Nat.le_trans g6.size G7.size))
            have NB := hide (World.news_of_block (cs := #[.string s, .slice none 0 0, .int .i64 0]) (t := 32) (fr := (0, 0)) (heap_alloc_new w6 _))
            clear g6 g6' G7
            go_simp
            refine hK.out _ _ trivial (fun hHeld => ?_)
            clear hK K
            try simp only [Act.put, List.getElem_toArray, List.getElem_cons_zero, List.getElem_cons_succ, List.setIfInBounds_toArray, List.set_cons_zero, List.set_cons_succ]
            first
              | (refine wpAnyH_take (i := 6) (v := undef) rfl (by kernel_rfl) (by kernel_rfl) (by kernel_rfl) (fun _ _ _ h => h) (Or.inr ⟨by rfl, rfl⟩) (by assumption) ?_)
              | (refine wpAnyH_take (i := 6) (v := ?_) rfl (by kernel_rfl) (by kernel_rfl) (by kernel_rfl) (fun _ _ _ h => h) (Or.inl ⟨by rfl, ?_⟩) (by assumption) ?_
                 rotate_left
                 (intro w hSw
                  (try dsimp only at hSw)
                  (go_simp <;> with_reducible rfl)))
            try simp only [Act.put, List.getElem_toArray, List.getElem_cons_zero, List.getElem_cons_succ, List.setIfInBounds_toArray, List.set_cons_zero, List.set_cons_succ]
            refine wpAnyH_ready (rs := [7]) (by kernel_rfl) (by simp) ?_
            refine AllReadyH.cons (i := 7) (o := _) rfl (fun K hK => ?_) ?_
            rotate_left
            · exact AllReadyH.nil
            go_simp
            refine hK.out _ _ trivial (fun hHeld => ?_)
            clear hK K
            try simp only [Act.put, List.getElem_toArray, List.getElem_cons_zero, List.getElem_cons_succ, List.setIfInBounds_toArray, List.set_cons_zero, List.set_cons_succ]
            refine wpAnyH_ready (rs := [8]) (by kernel_rfl) (by simp) ?_
            refine AllReadyH.cons (i := 8) (o := _) rfl (fun K hK => ?_) ?_
            rotate_left
            · exact AllReadyH.nil
            refine step_append_lies _ (by rfl) _ _ _ (by rfl) bo 32 i0 (.agg #[.string ⟨#[]⟩, .slice none 0 0, .int .i64 0]) 3 48 Tryd.underlying24 hi0 hz0 hz1 hz2 rfl (by omega) _ j L1 (by rfl) A7.out ⟨w6.heap.size, 0, none⟩ 1 1 [.string s, .slice none 0 0, .int .i64 0] (by rfl) (by rfl) NB.out (by simp [Value.oneCell']) (by omega) (by simp [maxLen]; omega) (by omega) Z7.out (w6.heap.size + 1) (by simp) ?_
            intro gg cap2 w8 hown hgrow hgat hglt
            have GR := (Chg.refl (fun x => v.ownBlock = some x) (w6.alloc (.cells #[.string s, .slice none 0 0, .int .i64 0] 32))).grown hgrow (fun r e => Or.inl e)
            have nO : ¬ v.ownBlock = some O := fun e => by have := (RL.out O e).1; have := HOb.out; omega
            have T8 := GR.blk nO HT7.out
            have zO8 := blk_cell T8 1
            have fO8 := blk_free T8 1
            simp only [List.getElem?_toArray, List.getElem?_cons_zero, List.getElem?_cons_succ] at zO8
            have G9 := Chg.set w8 O 1 (.slice (some ⟨gg, 0, none⟩) (j + 1) cap2)
            have T9 : Hid ((w8.setCell ⟨O, 1, none⟩ (.slice (some ⟨gg, 0, none⟩) (j + 1) cap2)).heap[O]? = some (.cells #[u, .slice (some ⟨gg, 0, none⟩) (j + 1) cap2] 26)) := hide (blk_set T8 1 (.slice (some ⟨gg, 0, none⟩) (j + 1) cap2))
            have A9 : Hid ((w8.setCell ⟨O, 1, none⟩ (.slice (some ⟨gg, 0, none⟩) (j + 1) cap2)).ownsRow bo 32 3 (.slice (some ⟨gg, 0, none⟩) (j + 1) cap2) (j + 1) (cellsC (cvs i (j + 1)))) := hide (by
              have h1 := own_chg hown G9 (fun x hx e => by have := HOb.out; omega)
              rw [SN.out]
              exact h1)
            have Z9 := hide (Nat.le_trans Z7.out (Nat.le_trans GR.size G9.size))
            have C9 : Hid (Chg (fun x => x = O) w2 (w8.setCell ⟨O, 1, none⟩ (.slice (some ⟨gg, 0, none⟩) (j + 1) cap2))) := hide (by
              have h1 : Chg (fun x => x = O ∨ bo ≤ x) w2 _ := ((C7.out.mono (fun x _ h => Or.inl h)).trans (GR.mono (fun x _ h => Or.inr (RL.out x h).1))).trans (G9.mono (fun x _ h => Or.inl h))
              exact h1.mono (fun x hx h => by have := HB.out; omega))
            have F9 : Hid (LInv2 w2 (w8.setCell ⟨O, 1, none⟩ (.slice (some ⟨gg, 0, none⟩) (j + 1) cap2)) O bo i (j + 1) u) := hide ⟨_, T9, A9, Z9, C9⟩
            clear GR T8 G9 hown hgrow hgat nO T9 A9 Z9 C9
            refine hK.out _ _ trivial (fun hHeld => ?_)
            clear hK K
            try simp only [Act.put, List.getElem_toArray, List.getElem_cons_zero, List.getElem_cons_succ, List.setIfInBounds_toArray, List.set_cons_zero, List.set_cons_succ]
            first
              | (refine wpAnyH_take (i := 9) (v := undef) rfl (by kernel_rfl) (by kernel_rfl) (by kernel_rfl) (fun _ _ _ h => h) (Or.inr ⟨by rfl, rfl⟩) (by assumption) ?_)
              | (refine wpAnyH_take (i := 9) (v := ?_) rfl (by kernel_rfl) (by kernel_rfl) (by kernel_rfl) (fun _ _ _ h => h) (Or.inl ⟨by rfl, ?_⟩) (by assumption) ?_
                 rotate_left
                 (intro w hSw
                  (try dsimp only at hSw)
                  (go_simp <;> with_reducible rfl)))
            try simp only [Act.put, List.getElem_toArray, List.getElem_cons_zero, List.getElem_cons_succ, List.setIfInBounds_toArray, List.set_cons_zero, List.set_cons_succ]
            refine wpAnyH_ready (rs := [10]) (by kernel_rfl) (by simp) ?_
            refine AllReadyH.cons (i := 10) (o := _) rfl (fun K hK => ?_) ?_
            rotate_left
            · exact AllReadyH.nil
            go_simp
            refine hK.out _ _ trivial (fun hHeld => ?_)
            clear hK K
            try simp only [Act.put, List.getElem_toArray, List.getElem_cons_zero, List.getElem_cons_succ, List.setIfInBounds_toArray, List.set_cons_zero, List.set_cons_succ]
            refine wpAnyH_done (by kernel_rfl) ?_ _
            go_wp2_with fail
            go_roundw
            case rel => exact ⟨j + 1, by omega, by go_num, F9⟩
            case measure => simp [intOf]; omega
          refine AllReadyH.cons (i := 5) (o := _) rfl (fun K hK => ?_) ?_
          rotate_left
          · exact AllReadyH.nil
          go_simp
          refine wo.out.mono ?_
          rintro e w6 ⟨rfl, g6'⟩
          have g6 := (Chg.refl (fun _ => False) wr).drew.trans g6'
          have zO6 := g6.cell (fun h => h) zO
          have G7 := al w6 (.cells #[.string s, .slice none 0 0, .int .i64 0] 32)
          have zO7 := G7.cell (fun h => h) zO6
          have HT7 := hide (G7.blk (fun h => h) (g6.blk (fun h => h) hT.out))
          have A7 := hide (own_chg (own_chg hA.out g6 (fun x hx h => h)) G7 (fun x hx h => h))
          have C7 := hide ((hC.out.trans g6.none).trans G7.none)
          have Z7 := hide (Nat.le_trans hZ.out (Nat.le_trans g6.size G7.size))
          have NB := hide (World.news_of_block (cs := #[.string s, .slice none 0 0, .int .i64 0]) (t := 32) (fr := (0, 0)) (heap_alloc_new w6 _))
          clear g6 g6' G7
          go_simp
          refine hK.out _ _ trivial (fun hHeld => ?_)
          clear hK K
          try simp only [Act.put, List.getElem_toArray, List.getElem_cons_zero, List.getElem_cons_succ, List.setIfInBounds_toArray, List.set_cons_zero, List.set_cons_succ]
          first
            | (refine wpAnyH_take (i := 6) (v := undef) rfl (by kernel_rfl) (by kernel_rfl) (by kernel_rfl) (fun _ _ _ h => h) (Or.inr ⟨by rfl, rfl⟩) (by assumption) ?_)
            | (refine wpAnyH_take (i := 6) (v := ?_) rfl (by kernel_rfl) (by kernel_rfl) (by kernel_rfl) (fun _ _ _ h => h) (Or.inl ⟨by rfl, ?_⟩) (by assumption) ?_
               rotate_left
               (intro w hSw
                (try dsimp only at hSw)
                (go_simp <;> with_reducible rfl)))
          try simp only [Act.put, List.getElem_toArray, List.getElem_cons_zero, List.getElem_cons_succ, List.setIfInBounds_toArray, List.set_cons_zero, List.set_cons_succ]
          refine wpAnyH_ready (rs := [1, 7]) (by kernel_rfl) (by simp) ?_
          refine AllReadyH.cons (i := 1) (o := _) rfl (fun K hK => ?_) ?_
          · go_simp
            refine hK.out _ _ trivial (fun hHeld => ?_)
            clear hK K
            try simp only [Act.put, List.getElem_toArray, List.getElem_cons_zero, List.getElem_cons_succ, List.setIfInBounds_toArray, List.set_cons_zero, List.set_cons_succ]
            refine wpAnyH_ready (rs := [7]) (by kernel_rfl) (by simp) ?_
            refine AllReadyH.cons (i := 7) (o := _) rfl (fun K hK => ?_) ?_
            rotate_left
            · exact AllReadyH.nil
            go_simp
            refine hK.out _ _ trivial (fun hHeld => ?_)
            clear hK K
            try simp only [Act.put, List.getElem_toArray, List.getElem_cons_zero, List.getElem_cons_succ, List.setIfInBounds_toArray, List.set_cons_zero, List.set_cons_succ]
            refine wpAnyH_ready (rs := [8]) (by kernel_rfl) (by simp) ?_
            refine AllReadyH.cons (i := 8) (o := _) rfl (fun K hK => ?_) ?_
            rotate_left
            · exact AllReadyH.nil
            refine step_append_lies _ (by rfl) _ _ _ (by rfl) bo 32 i0 (.agg #[.string ⟨#[]⟩, .slice none 0 0, .int .i64 0]) 3 48 Tryd.underlying24 hi0 hz0 hz1 hz2 rfl (by omega) _ j L1 (by rfl) A7.out ⟨w6.heap.size, 0, none⟩ 1 1 [.string s, .slice none 0 0, .int .i64 0] (by rfl) (by rfl) NB.out (by simp [Value.oneCell']) (by omega) (by simp [maxLen]; omega) (by omega) Z7.out (w6.heap.size + 1) (by simp) ?_
            intro gg cap2 w8 hown hgrow hgat hglt
            have GR := (Chg.refl (fun x => v.ownBlock = some x) (w6.alloc (.cells #[.string s, .slice none 0 0, .int .i64 0] 32))).grown hgrow (fun r e => Or.inl e)
            have nO : ¬ v.ownBlock = some O := fun e => by have := (RL.out O e).1; have := HOb.out; omega
            have T8 := GR.blk nO HT7.out
            have zO8 := blk_cell T8 1
            have fO8 := blk_free T8 1
            simp only [List.getElem?_toArray, List.getElem?_cons_zero, List.getElem?_cons_succ] at zO8
            have G9 := Chg.set w8 O 1 (.slice (some ⟨gg, 0, none⟩) (j + 1) cap2)
            have T9 : Hid ((w8.setCell ⟨O, 1, none⟩ (.slice (some ⟨gg, 0, none⟩) (j + 1) cap2)).heap[O]? = some (.cells #[u, .slice (some ⟨gg, 0, none⟩) (j + 1) cap2] 26)) := hide (blk_set T8 1 (.slice (some ⟨gg, 0, none⟩) (j + 1) cap2))
            have A9 : Hid ((w8.setCell ⟨O, 1, none⟩ (.slice (some ⟨gg, 0, none⟩) (j + 1) cap2)).ownsRow bo 32 3 (.slice (some ⟨gg, 0, none⟩) (j + 1) cap2) (j + 1) (cellsC (cvs i (j + 1)))) := hide (by
              have h1 := own_chg hown G9 (fun x hx e => by have := HOb.out; omega)
              rw [SN.out]
              exact h1)
            have Z9 := hide (Nat.le_trans Z7.out (Nat.le_trans GR.size G9.size))
            have C9 : Hid (Chg (fun x => x = O) w2 (w8.setCell ⟨O, 1, none⟩ (.slice (some ⟨gg, 0, none⟩) (j + 1) cap2))) := hide (by
              have h1 : Chg (fun x => x = O ∨ bo ≤ x) w2 _ := ((C7.out.mono (fun x _ h => Or.inl h)).trans (GR.mono (fun x _ h => Or.inr (RL.out x h).1))).trans (G9.mono (fun x _ h => Or.inl h))
              exact h1.mono (fun x hx h => by have := HB.out; omega))
            have F9 : Hid (LInv2 w2 (w8.setCell ⟨O, 1, none⟩ (.slice (some ⟨gg, 0, none⟩) (j + 1) cap2)) O bo i (j + 1) u) := hide ⟨_, T9, A9, Z9, C9⟩
            clear GR T8 G9 hown hgrow hgat nO T9 A9 Z9 C9
            refine hK.out _ _ trivial (fun hHeld => ?_)
            clear hK K
            try simp only [Act.put, List.getElem_toArray, List.getElem_cons_zero, List.getElem_cons_succ, List.setIfInBounds_toArray, List.set_cons_zero, List.set_cons_succ]
            first
              | (refine wpAnyH_take (i := 9) (v := undef) rfl (by kernel_rfl) (by kernel_rfl) (by kernel_rfl) (fun _ _ _ h => h) (Or.inr ⟨by rfl, rfl⟩) (by assumption) ?_)
              | (refine wpAnyH_take (i := 9) (v := ?_) rfl (by kernel_rfl) (by kernel_rfl) (by kernel_rfl) (fun _ _ _ h => h) (Or.inl ⟨by rfl, ?_⟩) (by assumption) ?_
                 rotate_left
                 (intro w hSw
                  (try dsimp only at hSw)
                  (go_simp <;> with_reducible rfl)))
            try simp only [Act.put, List.getElem_toArray, List.getElem_cons_zero, List.getElem_cons_succ, List.setIfInBounds_toArray, List.set_cons_zero, List.set_cons_succ]
            refine wpAnyH_ready (rs := [10]) (by kernel_rfl) (by simp) ?_
            refine AllReadyH.cons (i := 10) (o := _) rfl (fun K hK => ?_) ?_
            rotate_left
            · exact AllReadyH.nil
            go_simp
            refine hK.out _ _ trivial (fun hHeld => ?_)
            clear hK K
            try simp only [Act.put, List.getElem_toArray, List.getElem_cons_zero, List.getElem_cons_succ, List.setIfInBounds_toArray, List.set_cons_zero, List.set_cons_succ]
            refine wpAnyH_done (by kernel_rfl) ?_ _
            go_wp2_with fail
            go_roundw
            case rel => exact ⟨j + 1, by omega, by go_num, F9⟩
            case measure => simp [intOf]; omega
          refine AllReadyH.cons (i := 7) (o := _) rfl (fun K hK => ?_) ?_
          rotate_left
          · exact AllReadyH.nil
          go_simp
          refine hK.out _ _ trivial (fun hHeld => ?_)
          clear hK K
          try simp only [Act.put, List.getElem_toArray, List.getElem_cons_zero, List.getElem_cons_succ, List.setIfInBounds_toArray, List.set_cons_zero, List.set_cons_succ]
          refine wpAnyH_ready (rs := [1]) (by kernel_rfl) (by simp) ?_
          refine AllReadyH.cons (i := 1) (o := _) rfl (fun K hK => ?_) ?_
          rotate_left
          · exact AllReadyH.nil
          go_simp
          refine hK.out _ _ trivial (fun hHeld => ?_)
          clear hK K
          try simp only [Act.put, List.getElem_toArray, List.getElem_cons_zero, List.getElem_cons_succ, List.setIfInBounds_toArray, List.set_cons_zero, List.set_cons_succ]
          refine wpAnyH_ready (rs := [8]) (by kernel_rfl) (by simp) ?_
          refine AllReadyH.cons (i := 8) (o := _) rfl (fun K hK => ?_) ?_
          rotate_left
          · exact AllReadyH.nil
          refine step_append_lies _ (by rfl) _ _ _ (by rfl) bo 32 i0 (.agg #[.string ⟨#[]⟩, .slice none 0 0, .int .i64 0]) 3 48 Tryd.underlying24 hi0 hz0 hz1 hz2 rfl (by omega) _ j L1 (by rfl) A7.out ⟨w6.heap.size, 0, none⟩ 1 1 [.string s, .slice none 0 0, .int .i64 0] (by rfl) (by rfl) NB.out (by simp [Value.oneCell']) (by omega) (by simp [maxLen]; omega) (by omega) Z7.out (w6.heap.size + 1) (by simp) ?_
          intro gg cap2 w8 hown hgrow hgat hglt
          have GR := (Chg.refl (fun x => v.ownBlock = some x) (w6.alloc (.cells #[.string s, .slice none 0 0, .int .i64 0] 32))).grown hgrow (fun r e => Or.inl e)
          have nO : ¬ v.ownBlock = some O := fun e => by have := (RL.out O e).1; have := HOb.out; omega
          have T8 := GR.blk nO HT7.out
          have zO8 := blk_cell T8 1
          have fO8 := blk_free T8 1
          simp only [List.getElem?_toArray, List.getElem?_cons_zero, List.getElem?_cons_succ] at zO8
          have G9 := Chg.set w8 O 1 (.slice (some ⟨gg, 0, none⟩) (j + 1) cap2)
          have T9 : Hid ((w8.setCell ⟨O, 1, none⟩ (.slice (some ⟨gg, 0, none⟩) (j + 1) cap2)).heap[O]? = some (.cells #[u, .slice (some ⟨gg, 0, none⟩) (j + 1) cap2] 26)) := hide (blk_set T8 1 (.slice (some ⟨gg, 0, none⟩) (j + 1) cap2))
          have A9 : Hid ((w8.setCell ⟨O, 1, none⟩ (.slice (some ⟨gg, 0, none⟩) (j + 1) cap2)).ownsRow bo 32 3 (.slice (some ⟨gg, 0, none⟩) (j + 1) cap2) (j + 1) (cellsC (cvs i (j + 1)))) := hide (by
            have h1 := own_chg hown G9 (fun x hx e => by have := HOb.out; omega)
            rw [SN.out]
            exact h1)
          have Z9 := hide (Nat.le_trans Z7.out (Nat.le_trans GR.size G9.size))
          have C9 : Hid (Chg (fun x => x = O) w2 (w8.setCell ⟨O, 1, none⟩ (.slice (some ⟨gg, 0, none⟩) (j + 1) cap2))) := hide (by
            have h1 : Chg (fun x => x = O ∨ bo ≤ x) w2 _ := ((C7.out.mono (fun x _ h => Or.inl h)).trans (GR.mono (fun x _ h => Or.inr (RL.out x h).1))).trans (G9.mono (fun x _ h => Or.inl h))
            exact h1.mono (fun x hx h => by have := HB.out; omega))
          have F9 : Hid (LInv2 w2 (w8.setCell ⟨O, 1, none⟩ (.slice (some ⟨gg, 0, none⟩) (j + 1) cap2)) O bo i (j + 1) u) := hide ⟨_, T9, A9, Z9, C9⟩
          clear GR T8 G9 hown hgrow hgat nO T9 A9 Z9 C9
          refine hK.out _ _ trivial (fun hHeld => ?_)
          clear hK K
          try simp only [Act.put, List.getElem_toArray, List.getElem_cons_zero, List.getElem_cons_succ, List.setIfInBounds_toArray, List.set_cons_zero, List.set_cons_succ]
          first
            | (refine wpAnyH_take (i := 9) (v := undef) rfl (by kernel_rfl) (by kernel_rfl) (by kernel_rfl) (fun _ _ _ h => h) (Or.inr ⟨by rfl, rfl⟩) (by assumption) ?_)
            | (refine wpAnyH_take (i := 9) (v := ?_) rfl (by kernel_rfl) (by kernel_rfl) (by kernel_rfl) (fun _ _ _ h => h) (Or.inl ⟨by rfl, ?_⟩) (by assumption) ?_
               rotate_left
               (intro w hSw
                (try dsimp only at hSw)
                (go_simp <;> with_reducible rfl)))
          try simp only [Act.put, List.getElem_toArray, List.getElem_cons_zero, List.getElem_cons_succ, List.setIfInBounds_toArray, List.set_cons_zero, List.set_cons_succ]
          refine wpAnyH_ready (rs := [10]) (by kernel_rfl) (by simp) ?_
          refine AllReadyH.cons (i := 10) (o := _) rfl (fun K hK => ?_) ?_
          rotate_left
          · exact AllReadyH.nil
          go_simp
          refine hK.out _ _ trivial (fun hHeld => ?_)
          clear hK K
          try simp only [Act.put, List.getElem_toArray, List.getElem_cons_zero, List.getElem_cons_succ, List.setIfInBounds_toArray, List.set_cons_zero, List.set_cons_succ]
          refine wpAnyH_done (by kernel_rfl) ?_ _
          go_wp2_with fail
          go_roundw
          case rel => exact ⟨j + 1, by omega, by go_num, F9⟩
          case measure => simp [intOf]; omega
        · have hjf : j = b := by omega
          subst hjf
          have CN := hide (own_cns hA.out)
          have zv : ∃ va vc, v = .slice va j vc := by
            rcases hA.out.2 with ⟨h1, h2⟩ | ⟨g, cap2, cur, h1, _⟩
            · exact ⟨_, _, by rw [h1, h2]⟩
            · exact ⟨_, _, h1⟩
          obtain ⟨va, vc, rfl⟩ := zv
          obtain ⟨ua, uc, rfl⟩ := zb.out
          have x0 := blk_cell hT.out 0
          have x1 := blk_cell hT.out 1
          simp only [List.getElem?_toArray, List.getElem?_cons_zero, List.getElem?_cons_succ] at x0 x1
          have SF := hide ((ST.out.chg hC.out (fun x hx e => by omega)).up (Y := fun x => x < wr.heap.size) (fun x hx => Nat.lt_of_lt_of_le hx.2 hC.out.size))
          have CF := hide (CN.out.up (Y := fun x => x < wr.heap.size) (fun x hx => hx.2))
          have ck := hide (check_any _ _ _ _ (fun x => x < wr.heap.size) wr (fun x hx => hx) SF.out CF.out)
          have GF : Hid (Chg (fun _ => False) w wr) := hide (by
            have h1 : Chg (fun x => x = O) w wr := (G1.out.none.trans C2.out).trans hC.out
            exact h1.mono (fun x hx e => by have := HO.out; omega))
          clear hT hA hZ hC ST CN C2 ZZ zb
          by_cases h1 : 1000 < i + j
          · rw [long_many h1] at ck
            have h2 : (1000 : Int) < (i : Int) + (j : Int) := by omega
            go_wp2_with fail
            refine ck.out.mono ?_
            rintro e w3 ⟨rfl, g3⟩
            have G3 := hide (GF.out.trans g3)
            clear g3 ck
            go_wp2_with fail
            refine (known_any _).mono ?_
            rintro e w4 ⟨rfl, g4⟩
            have G4 := hide (G3.out.trans g4)
            clear g4
            go_wp2_with fail
            go_ret
            exact ⟨rfl, G4.out⟩
          · have h2 : ¬ (1000 : Int) < (i : Int) + (j : Int) := by omega
            by_cases h3 : i = 0
            · subst h3
              rw [long_none (by omega) (by omega)] at ck
              go_wp2_with fail
              refine ck.out.mono ?_
              rintro e w3 ⟨rfl, g3⟩
              have G3 := hide (GF.out.trans g3)
              clear g3 ck
              go_wp2_with fail
              refine (known_any _).mono ?_
              rintro e w4 ⟨rfl, g4⟩
              have G4 := hide (G3.out.trans g4)
              clear g4
              go_wp2_with fail
              go_ret
              exact ⟨rfl, G4.out⟩
            · have h4 : ((i : Int) == 0) = false := by simp; omega
              rw [long_some (by omega) (by omega)] at ck
              go_wp2_with fail
              refine ck.out.mono ?_
              rintro e w3 ⟨rfl, g3⟩
              have G3 := hide (GF.out.trans g3)
              clear g3 ck
              go_wp2_with fail
              refine (known_any _).mono ?_
              rintro e w4 ⟨rfl, g4⟩
              have G4 := hide (G3.out.trans g4)
              clear g4
              go_wp2_with fail
              go_ret
              exact ⟨rfl, G4.out⟩
theorem long_law (W : World) (hT : Tabs W) (n : Int) (hn : (Lit.int .i64 n).wf = true) (m : Int) (hm : (Lit.int .i64 m).wf = true) : Calls Tryd.prog 3 #[.int .i64 n, .int .i64 m] W fun e W' => e = .returned (.bool true) ∧ Below W.heap.size W W' :=
  (long_walk n m W).mono fun e W' ⟨h, g⟩ => ⟨h, g.below (Nat.le_refl _) (fun _ h => h.elim)⟩
end Go.Proofs.YtdoohocdaacnaaaDoor
