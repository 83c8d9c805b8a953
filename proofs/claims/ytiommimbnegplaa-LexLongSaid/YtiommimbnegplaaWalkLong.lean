/- The walk of LexLong: a text of more bytes than may be is told so; one of as many is split alike. -/
import Derived.Test.YtiommimbnegplaaWalkSplits
import Derived.Deep.OwnRows
import Derived.Laws.BytesArg
namespace Go.Proofs.Ytiommimbnegplaa
open Go.RowKit
set_option linter.unusedVariables false

set_option maxRecDepth 100000 in
theorem split_long (s : ByteArray) (hs : 20000 < s.size) (w : World) : Calls Try.prog 8 #[.string s] w fun e w' => e = .returned (.tuple #[.slice none 0 0, .agg #[.int .i64 2, .int .i64 1, .int .i64 1, .string ⟨#[]⟩]]) ∧ Below w.heap.size w w' := by
  have hm : (20000 : Int) < (s.size : Int) := by omega
  go_enter Try.func8, Try.ntmps8
  go_wp2_with fail
  refine bodyPost_ret (v := .tuple #[.slice none 0 0, .agg #[.int .i64 2, .int .i64 1, .int .i64 1, .string ⟨#[]⟩]]) (by simp [results, Try.results8, go_sem]) rfl ⟨rfl, ?_⟩
  exact ((Below.refl _ w).alloc (Nat.le_refl _) _).alloc (by simp) _

set_option maxRecDepth 100000 in
set_option maxHeartbeats 4000000 in
theorem long_walk (n : Int) (tail : ByteArray) (hl : tail.size ≤ 9223372036854775807) (w : World) :
    Calls Try.prog 4 #[.int .i64 n, .string tail] w fun e w' => e = .returned (.bool true) ∧ Below w.heap.size w w' := by
  have hx : (tail.extract 0 (min (tail.size : Int) 5).toNat).size ≤ 5 := by simp; omega
  obtain ⟨N, hN, hN2⟩ : ∃ N : Nat, wrap64 (19990 + wrap64 ((IntKind.u64.wrap n).tmod 20)) = (N : Int) ∧ N ≤ 20010 := by
    have h1 : 0 ≤ IntKind.u64.wrap n := by rw [IntKind.wrap_u64]; omega
    have h2 := Int.tmod_nonneg (b := 20) h1
    have h3 := Int.tmod_lt_of_pos (IntKind.u64.wrap n) (b := 20) (by omega)
    have h4 : wrap64 ((IntKind.u64.wrap n).tmod 20) = (IntKind.u64.wrap n).tmod 20 := IntWalk.wrap64_in _ (by omega)
    rw [h4]
    refine ⟨(19990 + (IntKind.u64.wrap n).tmod 20).toNat, ?_, by omega⟩
    rw [IntWalk.wrap64_in _ (by omega)]; omega
  have hmk := run_make_row' (P := Try.prog) 41 5 (.int .u8 0) 1 (by kernel_rfl) (by kernel_rfl) rfl .i64 .i64 N (by omega) (by omega)
  go_enter Try.func4, Try.ntmps4
  go_wp2_with fail
  generalize tail.extract 0 (min (tail.size : Int) 5).toNat = T at *
  simp only [hN]
  clear hmk hN
  go_loopw [6] (fun i wr => ∃ k : Nat, k ≤ N ∧ i = .int .i64 k ∧ Hid (wr.rowIs w.heap.size 5 N (fun j => if j < k then .int .u8 32 else .int .u8 0)) ∧ Hid (Below w.heap.size w wr)) (fun i _ => N - (intOf i).toNat)
  case atStart => exact ⟨0, Nat.zero_le _, rfl, (World.rowIs_made w _ _ _).congr (fun j _ => by simp), (Below.refl _ w).alloc (Nat.le_refl _) _⟩
  case round =>
    obtain ⟨k, hk, rfl, hrow, hB⟩ := hrel
    have hf := hrow.out.frozen k
    have hc : k < N → _ := fun h => hrow.out.cell h
    by_cases hlt : k < N
    · have hltI : (k : Int) < (N : Int) := by omega
      go_wp2_with fail
      go_roundw
      case rel =>
        refine ⟨k + 1, by omega, by go_num, (hrow.out.set _ _).congr (fun j _ => ?_), hB.out.setCell (by show w.heap.size ≤ w.heap.size; omega) _⟩
        by_cases h1 : j = k
        · subst h1; simp
        · simp only [if_neg h1]; by_cases h2 : j < k
          · rw [if_pos h2, if_pos (by omega)]
          · rw [if_neg h2, if_neg (by omega)]
      case measure => simp [intOf]; omega
    · have : k = N := by omega
      subst this
      have g := run_convert_bytes_arg (P := Try.prog) wr 41 5 (by kernel_rfl) (by kernel_rfl) w.heap.size 0 k k (List.replicate k 32) (by simp) (fun i hi => by rw [Nat.zero_add, hrow.out.cell hi]; simp [hi]) 9 (by kernel_rfl)
      have hz : (strOfNums (List.replicate k 32)).size = k := by rw [strOfNums_size]; simp
      generalize strOfNums (List.replicate k 32) = R at *
      clear hc hf
      go_wp2_with fail
      have hB' := hB.out
      have hsz : (R ++ T).size ≤ 20020 := by rw [ByteArray.size_append]; omega
      generalize R ++ T = S at *
      clear hrow hB g hz hlt hk hx hl hN2
      have kn := hide known_any
      by_cases hS : 20000 < S.size
      · have hSI : (20000 : Int) < (S.size : Int) := by omega
        refine (split_long S hS wr).mono ?_
        rintro e w1 ⟨rfl, hB1⟩
        have hBw := hB'.trans (hB1.mono hB'.size)
        go_wp2_with fail
        refine (kn.out _).mono ?_
        rintro e w2 ⟨rfl, hB2⟩
        have k0 := blk_new w1 (.cells #[.int .i64 2, .int .i64 1, .int .i64 1, .string ⟨#[]⟩] 27)
        have hsz2 : (w1.alloc (.cells #[.int .i64 2, .int .i64 1, .int .i64 1, .string ⟨#[]⟩] 27)).heap.size = w1.heap.size + 1 := by simp
        have k2 := (hB2.block w1.heap.size (by rw [hsz2]; omega)).trans k0
        have hBw2 : Below w.heap.size w w2 := (hBw.alloc hBw.size _).trans (hB2.mono (by rw [hsz2]; have := hBw.size; omega))
        have c0 := blk_cell k2 0
        have c1 := blk_cell k2 1
        have c2 := blk_cell k2 2
        have c3 := blk_cell k2 3
        have l2 := blk_lt k2
        have HB := hide hBw2
        clear k0 k2 hsz2 hB2 hBw hBw2 hB1 hB'
        go_wp2_with fail
        go_ret
        exact ⟨rfl, HB.out⟩
      · have hSI : (S.size : Int) ≤ 20000 := by omega
        have hx : S.size ≤ 20000 := by omega
        obtain ⟨F, hF⟩ : ∃ F, F = flt S (lexG S (S.size + 1) 0 false) := ⟨_, rfl⟩
        have sp := hide (fun w => split_told S hx w F hF)
        have rp := hide (fun w => refSplit_told S hx w F hF)
        have tl := toks_len S
        generalize toksOf (lexG S (S.size + 1) 0 false) = ts at *
        obtain ⟨f0, f1, f2, f3⟩ := F
        clear hF
        refine (sp.out _).mono ?_
        rintro e w1 ⟨⟨v, rfl, hv⟩, hB1⟩
        have hB1 := hB'.trans (hB1.mono hB'.size)
        clear hB'
        go_wp2_with fail
        refine (rp.out _).mono ?_
        rintro e w2 ⟨⟨u, rfl, hu⟩, hB2⟩
        have k0 := blk_new w1 (.cells #[.int .i64 f0, .int .i64 f1, .int .i64 f2, .string f3] 27)
        have hsz : (w1.alloc (.cells #[.int .i64 f0, .int .i64 f1, .int .i64 f2, .string f3] 27)).heap.size = w1.heap.size + 1 := by simp
        have hv2 := (hv.below ((Below.refl _ w1).alloc (Nat.le_refl _) _)).below hB2
        have k2 := (hB2.block w1.heap.size (by rw [hsz]; omega)).trans k0
        have hBw : Below w.heap.size w w2 := (hB1.alloc hB1.size _).trans (hB2.mono (by rw [hsz]; have := hB1.size; omega))
        clear hB1 hB2 hv k0 hsz
        go_wp2_with fail
        have kf := hide (fun w => fault_any f0 f1 f2 f3 w)
        have kn := hide known_any
        have h2s : w1.heap.size < w2.heap.size := blk_lt k2
        obtain ⟨W0, hW0⟩ : ∃ W0, W0 = w2.alloc (Obj.cells #[Value.int IntKind.i64 f0, Value.int IntKind.i64 f1, Value.int IntKind.i64 f2, Value.string f3] 33) := ⟨_, rfl⟩
        have q1 : W0.heap[w1.heap.size]? = some (Obj.cells #[Value.int IntKind.i64 f0, Value.int IntKind.i64 f1, Value.int IntKind.i64 f2, Value.string f3] 27) := by
          rw [hW0]; exact (((Below.refl _ w2).alloc (Nat.le_refl _) _).block w1.heap.size h2s).trans k2
        have q2 : W0.heap[w2.heap.size]? = some (Obj.cells #[Value.int IntKind.i64 f0, Value.int IntKind.i64 f1, Value.int IntKind.i64 f2, Value.string f3] 33) := by
          rw [hW0]; exact blk_new w2 _
        have qv : IsToks W0 v ts := by rw [hW0]; exact hv2.below ((Below.refl _ w2).alloc (Nat.le_refl _) _)
        have qu : IsToks W0 u ts := by rw [hW0]; exact hu.below ((Below.refl _ w2).alloc (Nat.le_refl _) _)
        have qB : Below w.heap.size w W0 := by rw [hW0]; exact hBw.alloc hBw.size _
        rw [← hW0]
        generalize w1.heap.size = A at *
        generalize w2.heap.size = B at *
        clear hW0 k2 hv2 hu hBw sp rp
        have A0 := blk_cell q1 0
        have A1 := blk_cell q1 1
        have A2 := blk_cell q1 2
        have A3 := blk_cell q1 3
        have B0 := blk_cell q2 0
        have B1 := blk_cell q2 1
        have B2 := blk_cell q2 2
        have B3 := blk_cell q2 3
        have lA := blk_lt q1
        have lB := blk_lt q2
        have tl' : ts.length ≤ 100000 := by omega
        have HV := hide qv
        have HU := hide qu
        have HB := hide qB
        have Hc : Hid (Below W0.heap.size W0 W0) := hide (Below.refl _ W0)
        clear qv qu qB q1 q2
        go_wp2_with fail

        go_region_held3 (fun w' => w'.cell? ⟨A, 0, none⟩ = some (.int .i64 f0) ∧ w'.cell? ⟨A, 1, none⟩ = some (.int .i64 f1) ∧ w'.cell? ⟨A, 2, none⟩ = some (.int .i64 f2) ∧ w'.cell? ⟨A, 3, none⟩ = some (.string f3) ∧
            w'.cell? ⟨B, 0, none⟩ = some (.int .i64 f0) ∧ w'.cell? ⟨B, 1, none⟩ = some (.int .i64 f1) ∧ w'.cell? ⟨B, 2, none⟩ = some (.int .i64 f2) ∧ w'.cell? ⟨B, 3, none⟩ = some (.string f3))
          (go_keep)
          (first
            | (go_at_call 10; refine (kn.out _).mono ?_; rintro e w3 ⟨rfl, h3⟩; have Hd : Below W0.heap.size W0 w3 := (by first | exact step_on Hc.out h3 | exact step_in Hc.out h3); have DA0 := (Hd.cell (p := ⟨A, 0, none⟩) lA).trans A0; have DA1 := (Hd.cell (p := ⟨A, 1, none⟩) lA).trans A1; have DA2 := (Hd.cell (p := ⟨A, 2, none⟩) lA).trans A2; have DA3 := (Hd.cell (p := ⟨A, 3, none⟩) lA).trans A3; have DB0 := (Hd.cell (p := ⟨B, 0, none⟩) lB).trans B0; have DB1 := (Hd.cell (p := ⟨B, 1, none⟩) lB).trans B1; have DB2 := (Hd.cell (p := ⟨B, 2, none⟩) lB).trans B2; have DB3 := (Hd.cell (p := ⟨B, 3, none⟩) lB).trans B3; have hws := Hd.size; clear Hc; have Hc := hide Hd; clear Hd h3)
            | (go_at_call 11; refine (same_any v u ts tl' _ (HV.out.below (by first | exact Hc.out | exact Hc.out.drew)) (HU.out.below (by first | exact Hc.out | exact Hc.out.drew))).mono ?_; rintro e w3 ⟨rfl, h3⟩; have Hd : Below W0.heap.size W0 w3 := (by first | exact step_on Hc.out h3 | exact step_in Hc.out h3); have DA0 := (Hd.cell (p := ⟨A, 0, none⟩) lA).trans A0; have DA1 := (Hd.cell (p := ⟨A, 1, none⟩) lA).trans A1; have DA2 := (Hd.cell (p := ⟨A, 2, none⟩) lA).trans A2; have DA3 := (Hd.cell (p := ⟨A, 3, none⟩) lA).trans A3; have DB0 := (Hd.cell (p := ⟨B, 0, none⟩) lB).trans B0; have DB1 := (Hd.cell (p := ⟨B, 1, none⟩) lB).trans B1; have DB2 := (Hd.cell (p := ⟨B, 2, none⟩) lB).trans B2; have DB3 := (Hd.cell (p := ⟨B, 3, none⟩) lB).trans B3; have hws := Hd.size; clear Hc; have Hc := hide Hd; clear Hd h3)
            | (go_at_call 12; refine (kf.out _).mono ?_; rintro e w3 ⟨rfl, h3⟩; have Hd : Below W0.heap.size W0 w3 := (by first | exact step_on Hc.out h3 | exact step_in Hc.out h3); have DA0 := (Hd.cell (p := ⟨A, 0, none⟩) lA).trans A0; have DA1 := (Hd.cell (p := ⟨A, 1, none⟩) lA).trans A1; have DA2 := (Hd.cell (p := ⟨A, 2, none⟩) lA).trans A2; have DA3 := (Hd.cell (p := ⟨A, 3, none⟩) lA).trans A3; have DB0 := (Hd.cell (p := ⟨B, 0, none⟩) lB).trans B0; have DB1 := (Hd.cell (p := ⟨B, 1, none⟩) lB).trans B1; have DB2 := (Hd.cell (p := ⟨B, 2, none⟩) lB).trans B2; have DB3 := (Hd.cell (p := ⟨B, 3, none⟩) lB).trans B3; have hws := Hd.size; clear Hc; have Hc := hide Hd; clear Hd h3))
        go_wp2_with fail
        go_ret
        exact ⟨rfl, HB.out.trans (Hc.out.mono HB.out.size)⟩
end Go.Proofs.Ytiommimbnegplaa
