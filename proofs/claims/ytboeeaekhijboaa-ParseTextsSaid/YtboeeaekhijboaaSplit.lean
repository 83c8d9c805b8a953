/- lex.Split. -/
import Derived.Test.YtboeeaekhijboaaCut
import Derived.Test.YtboeeaekhijboaaLexSpec
import Derived.StillTailTactics
namespace Go.Proofs.Ytboeeaekhijboaa
open Go.RowKit
set_option linter.unusedVariables false

theorem fail_any (Bs Ba : Nat) (s word : ByteArray) (hs : s.size ≤ 1000000) (k : Nat) (hk : k ≤ s.size) (code : Int) (w : World)
    (hS : w.heap[Bs]? = some (.cells #[.string s] 9)) (ha : w.heap[Ba]? = some (.cells #[.int .i64 k] 3)) :
    Calls Try.prog 83 #[.int .i64 code, .string word, .pointer (some ⟨Bs, 0, none⟩), .pointer (some ⟨Ba, 0, none⟩)] w fun e w' =>
      e = .returned (.tuple #[.slice none 0 0, .agg #[.int .i64 code, .int .i64 (markOf (s.data.toList.take k)).1, .int .i64 (markOf (s.data.toList.take k)).2, .string word]]) ∧ Below w.heap.size w w' := by
  have hlS := blk_lt hS
  have hlA := blk_lt ha
  have hT := blk_cell hS 0
  have hA := blk_cell ha 0
  have oc := hide (fun w => of_any s hs k hk w)
  obtain ⟨mj, hmj⟩ : ∃ mj, markOf (s.data.toList.take k) = mj := ⟨_, rfl⟩
  rw [hmj] at oc ⊢
  clear hmj
  obtain ⟨m1, m2⟩ := mj
  go_enter Try.func83, Try.ntmps83
  go_wp2_with fail
  refine (oc.out _).mono ?_
  rintro e w1 ⟨rfl, hB⟩
  go_wp2_with fail
  have k0 := blk_new w (Obj.cells #[Value.int IntKind.i64 0, Value.int IntKind.i64 0, Value.int IntKind.i64 0, Value.string ⟨#[]⟩] 27)
  have hsz : (w.alloc (Obj.cells #[Value.int IntKind.i64 0, Value.int IntKind.i64 0, Value.int IntKind.i64 0, Value.string ⟨#[]⟩] 27)).heap.size = w.heap.size + 1 := by simp
  have k1 : w1.heap[w.heap.size]? = _ := (hB.block w.heap.size (by rw [hsz]; omega)).trans k0
  have k2 := blk_alloc (o' := Obj.cells #[Value.int IntKind.i64 m1, Value.int IntKind.i64 m2] 25) k1
  have k3 := blk_new w1 (Obj.cells #[Value.int IntKind.i64 m1, Value.int IntKind.i64 m2] 25)
  have hlt := blk_lt k1
  have hBB : Below w.heap.size w (w1.alloc (Obj.cells #[Value.int IntKind.i64 m1, Value.int IntKind.i64 m2] 25)) :=
    (((Below.refl _ w).alloc (Nat.le_refl _) _).trans (hB.mono (by rw [hsz]; omega))).alloc (by omega) _
  obtain ⟨W, hW⟩ : ∃ W, w1.alloc (Obj.cells #[Value.int IntKind.i64 m1, Value.int IntKind.i64 m2] 25) = W := ⟨_, rfl⟩
  rw [hW] at k2 k3 hBB ⊢
  clear hW hB k0 k1 hsz
  have c80 := blk_cell k3 0
  have c81 := blk_cell k3 1
  have f0 := blk_free k2 0
  have f1 := blk_free k2 1
  have f2 := blk_free k2 2
  have f3 := blk_free k2 3
  have c0 := blk_cell k2 0
  have c1 := blk_cell k2 1
  have c2 := blk_cell k2 2
  have c3 := blk_cell k2 3
  have K2 := hide k2
  have HBB := hide hBB
  clear k2 k3 hBB hS ha
  go_region
  all_goals
    go_wp2_with fail
    have q := fun i => blk_cell (blk_set (blk_set (blk_set (blk_set K2.out 0 (.int .i64 code)) 1 (.int .i64 m1)) 2 (.int .i64 m2)) 3 (.string word)) i
    have q0 := q 0
    have q1 := q 1
    have q2 := q 2
    have q3 := q 3
    refine bodyPost_ret (v := .tuple #[.slice none 0 0, .agg #[.int .i64 code, .int .i64 m1, .int .i64 m2, .string word]]) (by simp [results, Try.results83, go_sem, q0, q1, q2, q3]) rfl ⟨rfl, ?_⟩
    exact ((((HBB.out.setCell (p := ⟨w.heap.size, 0, none⟩) (Nat.le_refl _) _).setCell (p := ⟨w.heap.size, 1, none⟩) (Nat.le_refl _) _).setCell (p := ⟨w.heap.size, 2, none⟩) (Nat.le_refl _) _).setCell (p := ⟨w.heap.size, 3, none⟩) (Nat.le_refl _) _).drew

/-- what a run of Split hands back: the tokens, or a fault and none -/
def outOf (s : ByteArray) (T : List Tok × Option Flt) (v : Value) (base : Nat) (w' : World) : Value × Prop :=
  match T.2 with
  | none => (.tuple #[v, .agg #[.int .i64 0, .int .i64 0, .int .i64 0, .string ⟨#[]⟩]], w'.ownsRow base 75 3 v T.1.length (cellsOf T.1))
  | some x => (.tuple #[.slice none 0 0, .agg #[.int .i64 x.1, .int .i64 (markOf (s.data.toList.take x.2.1)).1, .int .i64 (markOf (s.data.toList.take x.2.1)).2, .string x.2.2]], True)

def SplitOut (s : ByteArray) (base : Nat) (e : Ending) (w' : World) : Prop :=
  ∃ v, e = .returned (outOf s (lexG s (s.size + 1) 0 false) v base w').1 ∧ (outOf s (lexG s (s.size + 1) 0 false) v base w').2

theorem split_done (s : ByteArray) (base : Nat) (w' : World) (v : Value) (acc : List Tok) (hT : lexG s (s.size + 1) 0 false = (acc, none)) (hown : w'.ownsRow base 75 3 v acc.length (cellsOf acc)) :
    SplitOut s base (.returned (.tuple #[v, .agg #[.int .i64 0, .int .i64 0, .int .i64 0, .string ⟨#[]⟩]])) w' := by
  refine ⟨v, ?_⟩
  rw [hT]
  exact ⟨rfl, hown⟩

theorem split_fault (s : ByteArray) (base : Nat) (w' : World) (acc : List Tok) (c : Int) (k : Nat) (word : ByteArray) (hT : lexG s (s.size + 1) 0 false = (acc, some (c, k, word))) :
    SplitOut s base (.returned (.tuple #[.slice none 0 0, .agg #[.int .i64 c, .int .i64 (markOf (s.data.toList.take k)).1, .int .i64 (markOf (s.data.toList.take k)).2, .string word]])) w' := by
  refine ⟨.slice none 0 0, ?_⟩
  rw [hT]
  exact ⟨rfl, trivial⟩

theorem firstOf_kind (l : List UInt8) : (firstOf l).1 = 1 ∨ (firstOf l).1 = 2 ∨ (firstOf l).1 = 3 := by
  cases l with
  | nil => right; right; rfl
  | cons c r =>
    simp only [firstOf]
    split
    · left; rfl
    · split
      · right; left; rfl
      · right; right; rfl

def atOf (B : Nat) (w : World) : Nat := match w.cell? ⟨B, 0, none⟩ with | some (.int _ q) => q.toNat | _ => 0

set_option maxRecDepth 100000 in
set_option maxHeartbeats 2000000 in
theorem split_any (s : ByteArray) (hs : s.size ≤ 20000) (w : World) :
    Calls Try.prog 48 #[.string s] w fun e w' => SplitOut s (w.heap.size + 4) e w' ∧ Below w.heap.size w w' := by
  have hmf : ∀ (fn : Fn) (first cap : Array Value) (w : World), (Instr.makeFunc fn first cap).run Try.prog w = .ok (.func fn first cap) w := fun _ _ _ _ => rfl
  go_enter Try.func48, Try.ntmps48
  go_wp2_with fail
  have a0 := blk_new w (Obj.cells #[Value.string s] 9)
  have a1 := blk_new (w.alloc (Obj.cells #[Value.string s] 9)) (Obj.cells #[Value.int IntKind.i64 0, Value.int IntKind.i64 0, Value.int IntKind.i64 0, Value.string ⟨#[]⟩] 27)
  have a2 := blk_new ((w.alloc (Obj.cells #[Value.string s] 9)).alloc (Obj.cells #[Value.int IntKind.i64 0, Value.int IntKind.i64 0, Value.int IntKind.i64 0, Value.string ⟨#[]⟩] 27)) (Obj.cells #[Value.slice none 0 0] 101)
  have a3 := blk_new (((w.alloc (Obj.cells #[Value.string s] 9)).alloc (Obj.cells #[Value.int IntKind.i64 0, Value.int IntKind.i64 0, Value.int IntKind.i64 0, Value.string ⟨#[]⟩] 27)).alloc (Obj.cells #[Value.slice none 0 0] 101)) (Obj.cells #[Value.int IntKind.i64 0] 3)
  have hsz : ((((w.alloc (Obj.cells #[Value.string s] 9)).alloc (Obj.cells #[Value.int IntKind.i64 0, Value.int IntKind.i64 0, Value.int IntKind.i64 0, Value.string ⟨#[]⟩] 27)).alloc (Obj.cells #[Value.slice none 0 0] 101)).alloc (Obj.cells #[Value.int IntKind.i64 0] 3)).heap.size = w.heap.size + 4 := by simp
  have hB0 : Below w.heap.size w ((((w.alloc (Obj.cells #[Value.string s] 9)).alloc (Obj.cells #[Value.int IntKind.i64 0, Value.int IntKind.i64 0, Value.int IntKind.i64 0, Value.string ⟨#[]⟩] 27)).alloc (Obj.cells #[Value.slice none 0 0] 101)).alloc (Obj.cells #[Value.int IntKind.i64 0] 3)) :=
    ((((Below.refl _ w).alloc (Nat.le_refl _) _).alloc (by simp) _).alloc (by simp only [World.size_alloc]; omega) _).alloc (by simp only [World.size_alloc]; omega) _
  simp only [World.size_alloc] at a1 a2 a3
  have a0' := blk_alloc (o' := Obj.cells #[Value.int IntKind.i64 0] 3) (blk_alloc (o' := Obj.cells #[Value.slice none 0 0] 101) (blk_alloc (o' := Obj.cells #[Value.int IntKind.i64 0, Value.int IntKind.i64 0, Value.int IntKind.i64 0, Value.string ⟨#[]⟩] 27) a0))
  have a1' := blk_alloc (o' := Obj.cells #[Value.int IntKind.i64 0] 3) (blk_alloc (o' := Obj.cells #[Value.slice none 0 0] 101) a1)
  have a2' := blk_alloc (o' := Obj.cells #[Value.int IntKind.i64 0] 3) a2
  obtain ⟨W0, hW0⟩ : ∃ W0, ((((w.alloc (Obj.cells #[Value.string s] 9)).alloc (Obj.cells #[Value.int IntKind.i64 0, Value.int IntKind.i64 0, Value.int IntKind.i64 0, Value.string ⟨#[]⟩] 27)).alloc (Obj.cells #[Value.slice none 0 0] 101)).alloc (Obj.cells #[Value.int IntKind.i64 0] 3)) = W0 := ⟨_, rfl⟩
  rw [hW0] at a0' a1' a2' a3 hsz hB0 ⊢
  clear hW0 a0 a1 a2
  generalize hB : w.heap.size = B at *
  have EB := hide hB
  have A0 := hide a0'
  have A1 := hide a1'
  have A2 := hide a2'
  have A3 := hide a3
  have HB := hide hB0
  have HS := hide hsz
  clear hB a0' a1' a2' a3 hB0 hsz
  obtain ⟨T, hT⟩ : ∃ T, T = lexG s (s.size + 1) 0 false := ⟨_, rfl⟩
  have HT := hide hT
  clear hT
  go_loopw [8] (fun _ wr => ∃ (k f : Nat) (acc : List Tok) (v : Value), k ≤ s.size ∧ s.size < k + f ∧ acc.length ≤ k ∧ Hid (wr.heap[B]? = some (.cells #[.string s] 9)) ∧
      Hid (wr.heap[B + 1]? = some (.cells #[.int .i64 0, .int .i64 0, .int .i64 0, .string ⟨#[]⟩] 27)) ∧ Hid (wr.heap[B + 1 + 1]? = some (.cells #[v] 101)) ∧ Hid (wr.heap[B + 1 + 1 + 1]? = some (.cells #[.int .i64 k] 3)) ∧
      Hid (wr.ownsRow (B + 4) 75 3 v acc.length (cellsOf acc)) ∧ Hid (Below B w wr) ∧ B + 4 ≤ wr.heap.size ∧ Hid (T = (acc ++ (lexG s f k false).1, (lexG s f k false).2)))
    (fun _ wr => s.size + 1 - atOf (B + 1 + 1 + 1) wr)
  case atStart => exact ⟨0, s.size + 1, [], .slice none 0 0, Nat.zero_le _, by omega, Nat.le_refl _, A0.out, A1.out, A2.out, A3.out, World.ownsRow_nil _ _ _ _, HB.out, by rw [HS.out]; omega, by rw [HT.out]; rfl⟩
  case round =>
    obtain ⟨k, f, acc, v, hk, hf, hal, b0, b1, b2, b3, hown, hB, hsz, hTT⟩ := hrel
    obtain ⟨f, rfl⟩ : ∃ g, f = g + 1 := ⟨f - 1, by omega⟩
    have c0 := blk_cell b0.out 0
    have c3 := blk_cell b3.out 0
    have f3 := blk_free b3.out 0
    have c2 := blk_cell b2.out 0
    have hsk := hide (fun w => skip_any (s.extract k s.size) (by simp; omega) w)
    have hext : (s.extract k s.size).data.toList = s.data.toList.drop k := Lib.extract_to_end s k
    rw [hext] at hsk
    have hskl := skipLen_le (s.data.toList.drop k) false
    simp only [List.length_drop] at hskl
    have hlen : s.data.toList.length = s.size := by simp
    rw [hlen] at hskl
    obtain ⟨j, hj⟩ : ∃ j, skipLen (s.data.toList.drop k) false = j := ⟨_, rfl⟩
    have HJ := hide hj
    rw [hj] at hsk hskl
    clear hj hext hlen
    have e1 : IntKind.i64.wrap ((k : Int) + (j : Int)) = (k : Int) + (j : Int) := IntWalk.i64_in _ (by omega)
    have q0 : Hid ((wr.setCell ⟨B + 1 + 1 + 1, 0, none⟩ (.int .i64 ((k : Int) + (j : Int)))).heap[B]? = some (.cells #[.string s] 9)) := blk_other b0.out (by omega) _ _
    have q1 : Hid ((wr.setCell ⟨B + 1 + 1 + 1, 0, none⟩ (.int .i64 ((k : Int) + (j : Int)))).heap[B + 1]? = some (.cells #[.int .i64 0, .int .i64 0, .int .i64 0, .string ⟨#[]⟩] 27)) := blk_other b1.out (by omega) _ _
    have q2 : Hid ((wr.setCell ⟨B + 1 + 1 + 1, 0, none⟩ (.int .i64 ((k : Int) + (j : Int)))).heap[B + 1 + 1]? = some (.cells #[v] 101)) := blk_other b2.out (by omega) _ _
    have q3 : Hid ((wr.setCell ⟨B + 1 + 1 + 1, 0, none⟩ (.int .i64 ((k : Int) + (j : Int)))).heap[B + 1 + 1 + 1]? = some (.cells #[.int .i64 ((k : Int) + (j : Int))] 3)) := blk_set b3.out 0 _
    have qo : Hid ((wr.setCell ⟨B + 1 + 1 + 1, 0, none⟩ (.int .i64 ((k : Int) + (j : Int)))).ownsRow (B + 4) 75 3 v acc.length (cellsOf acc)) := (owns_setCell hown.out (by omega) _)
    have qB : Hid (Below B w (wr.setCell ⟨B + 1 + 1 + 1, 0, none⟩ (.int .i64 ((k : Int) + (j : Int))))) := (hB.out.setCell (p := ⟨B + 1 + 1 + 1, 0, none⟩) (by show B ≤ B + 1 + 1 + 1; omega) _)
    by_cases hend : k + j = s.size
    · have ht : (((k : Int) + (j : Int)) == (s.size : Int)) = true := by rw [beq_iff_eq]; omega
      have hTe : Hid (lexG s (s.size + 1) 0 false = (acc, none)) := by
        have h1 := lexG_end s f k false (k + j) (by rw [HJ.out]) hend
        have h2 := hTT.out
        rw [h1] at h2
        unfold Hid
        rw [← HT.out, h2]
        simp
      have c10 := blk_cell b1.out 0
      have c11 := blk_cell b1.out 1
      have c12 := blk_cell b1.out 2
      have c13 := blk_cell b1.out 3
      have f10 := blk_free b1.out 0
      have f11 := blk_free b1.out 1
      have f12 := blk_free b1.out 2
      have f13 := blk_free b1.out 3
      go_wp2_with fail
      go_still_tail 6, (by kernel_rfl)
      still_call ((hsk.out _).mono (fun _ _ h => ⟨h.1, h.2.symm⟩))
      repeat still_step
      refine wpStill_nil ?_
      change wpList _ _ _ _ _ wr.drew
      go_wp2_with fail
      have z := fun i => blk_cell (blk_set (blk_set (blk_set (blk_set q1.out 0 (.int .i64 0)) 1 (.int .i64 0)) 2 (.int .i64 0)) 3 (.string ⟨#[]⟩)) i
      have z0 := z 0
      have z1 := z 1
      have z2 := z 2
      have z3 := z 3
      clear z
      refine bodyPost_ret (v := .tuple #[v, .agg #[.int .i64 0, .int .i64 0, .int .i64 0, .string ⟨#[]⟩]]) (by simp [results, Try.results48, go_sem, z0, z1, z2, z3]) rfl ⟨?_, ?_⟩
      · rw [EB.out]
        exact split_done s (B + 4) _ v acc hTe.out (owns_setCell (owns_setCell (owns_setCell (owns_setCell qo.out (by omega) _) (by omega) _) (by omega) _) (by omega) _).drew
      · rw [EB.out]
        exact ((((qB.out.setCell (p := ⟨B + 1, 0, none⟩) (by show B ≤ B + 1; omega) _).setCell (p := ⟨B + 1, 1, none⟩) (by show B ≤ B + 1; omega) _).setCell (p := ⟨B + 1, 2, none⟩) (by show B ≤ B + 1; omega) _).setCell (p := ⟨B + 1, 3, none⟩) (by show B ≤ B + 1; omega) _).drew
    · have hlt : k + j < s.size := by omega
      have hltI : ((k : Int) + (j : Int)) < (s.size : Int) := by omega
      have ht : (((k : Int) + (j : Int)) == (s.size : Int)) = false := by rw [beq_eq_false_iff_ne]; omega
      have hn0 : (0 : Int) ≤ (k : Int) + (j : Int) := by omega
      have hex2 : (s.extract (k + j) s.size).data.toList = s.data.toList.drop (k + j) := Lib.extract_to_end s (k + j)
      have hfi := hide (fun w => first_any (s.extract (k + j) s.size) (by simp; omega) (by simp; omega) w)
      rw [hex2] at hfi
      have hfl := firstOf_le (s.data.toList.drop (k + j))
      simp only [List.length_drop] at hfl
      rw [show s.data.toList.length = s.size by simp] at hfl
      clear hex2
      have etn : ((k : Int) + (j : Int)).toNat = k + j := by omega
      by_cases hnz : (firstOf (s.data.toList.drop (k + j))).2 = 0
      · have hTe : Hid (lexG s (s.size + 1) 0 false = (acc, some (3, k + j, vis s[k + j]))) := by
          have h1 := lexG_form s f k false (k + j) (by rw [HJ.out]) hend hnz
          have h2 := hTT.out
          rw [h1] at h2
          unfold Hid
          rw [← HT.out, h2, bs_get s (k + j) hlt]
          simp [visHead]
        rw [hnz] at hfi
        generalize (firstOf (s.data.toList.drop (k + j))).1 = kd at *
        have vi := hide (fun w => visible_any s[k + j] w)
        generalize hvv : vis s[k + j] = vv at *
        clear hvv
        have fa := hide (fun (word : ByteArray) (c : Int) (w : World) h1 h2 => fail_any B (B + 1 + 1 + 1) s word (by omega) (k + j) (by omega) c w h1 h2)
        obtain ⟨mj, hmj⟩ : ∃ mj, markOf (s.data.toList.take (k + j)) = mj := ⟨_, rfl⟩
        have MJ := hide hmj
        rw [hmj] at fa
        clear hmj
        obtain ⟨m1, m2⟩ := mj
        go_wp2_with fail
        go_still_tail 6, (by kernel_rfl)
        still_call ((hsk.out _).mono (fun _ _ h => ⟨h.1, h.2.symm⟩))
        repeat still_step
        refine wpStill_nil ?_
        change wpList _ _ _ _ _ wr.drew
        go_wp2_with fail
        refine (hfi.out _).mono ?_
        rintro e w9 ⟨rfl, rfl⟩
        go_wp2_with fail
        refine (vi.out _).mono ?_
        rintro e w2 ⟨rfl, hv2⟩
        have r0 : w2.heap[B]? = some (.cells #[.string s] 9) := (hv2.block B (blk_lt q0.out)).trans q0.out
        have r1 : w2.heap[B + 1]? = some (.cells #[.int .i64 0, .int .i64 0, .int .i64 0, .string ⟨#[]⟩] 27) := (hv2.block (B + 1) (blk_lt q1.out)).trans q1.out
        have r3 : w2.heap[B + 1 + 1 + 1]? = some (.cells #[.int .i64 ((k + j : Nat) : Int)] 3) := by rw [Int.natCast_add]; exact (hv2.block (B + 1 + 1 + 1) (blk_lt q3.out)).trans q3.out
        have r4 : Below B w w2 := qB.out.drew.trans (hv2.mono (by have := blk_lt q3.out; show B ≤ (wr.setCell ⟨B + 1 + 1 + 1, 0, none⟩ (.int .i64 ((k : Int) + (j : Int)))).heap.size; omega))
        have R0 := hide r0
        have R1 := hide r1
        have R3 := hide r3
        have R4 := hide r4
        clear r0 r1 r3 r4 hv2
        go_wp2_with fail
        refine (fa.out _ _ _ R0.out R3.out).mono ?_
        rintro e w3 ⟨rfl, hv3⟩
        have t1 : w3.heap[B + 1]? = some (.cells #[.int .i64 0, .int .i64 0, .int .i64 0, .string ⟨#[]⟩] 27) := (hv3.block (B + 1) (blk_lt R1.out)).trans R1.out
        have tB : Below B w w3 := R4.out.trans (hv3.mono (by have := blk_lt R3.out; omega))
        clear hv3
        have c10 := blk_cell t1 0
        have c11 := blk_cell t1 1
        have c12 := blk_cell t1 2
        have c13 := blk_cell t1 3
        have f10 := blk_free t1 0
        have f11 := blk_free t1 1
        have f12 := blk_free t1 2
        have f13 := blk_free t1 3
        have T1 := hide t1
        have TB := hide tB
        clear t1 tB
        go_wp2_with fail
        have z := fun i => blk_cell (blk_set (blk_set (blk_set (blk_set T1.out 0 (.int .i64 3)) 1 (.int .i64 m1)) 2 (.int .i64 m2)) 3 (.string vv)) i
        have z0 := z 0
        have z1 := z 1
        have z2 := z 2
        have z3 := z 3
        clear z
        refine bodyPost_ret (v := .tuple #[.slice none 0 0, .agg #[.int .i64 3, .int .i64 m1, .int .i64 m2, .string vv]]) (by simp [results, Try.results48, go_sem, z0, z1, z2, z3]) rfl ⟨?_, ?_⟩
        · rw [EB.out]
          have sf := fun W => split_fault s (B + 4) W acc 3 (k + j) vv hTe.out
          rw [MJ.out] at sf
          exact sf _
        · rw [EB.out]
          exact (((TB.out.setCell (p := ⟨B + 1, 0, none⟩) (by show B ≤ B + 1; omega) _).setCell (p := ⟨B + 1, 1, none⟩) (by show B ≤ B + 1; omega) _).setCell (p := ⟨B + 1, 2, none⟩) (by show B ≤ B + 1; omega) _).setCell (p := ⟨B + 1, 3, none⟩) (by show B ≤ B + 1; omega) _
      · obtain ⟨n, hn⟩ : ∃ n, (firstOf (s.data.toList.drop (k + j))).2 = n := ⟨_, rfl⟩
        have hn0' : n ≠ 0 := by rw [← hn]; exact hnz
        rw [hn] at hfl
        have hnI : ((n : Int) == 0) = false := by rw [beq_eq_false_iff_ne]; omega
        have hkinds := firstOf_kind (s.data.toList.drop (k + j))
        clear hnz
        rcases hkinds with hkd | hkd | hkd
        · by_cases hlim : (30 : Int) < (n : Int)
          · have htl : tooLong (firstOf (s.data.toList.drop (k + j))) = true := by simp [tooLong, hkd, hn]; omega
            have hTe : Hid (lexG s (s.size + 1) 0 false = (acc, some (2, k + j, headOf (s.extract (k + j) (k + j + n))))) := by
              have h1 := lexG_long s f k false (k + j) n (by rw [HJ.out]) hend hn hn0' htl
              have h2 := hTT.out
              rw [h1] at h2
              unfold Hid
              rw [← HT.out, h2]
              simp
            clear htl
            rw [hn, hkd] at hfi
            clear hn hkd
            have hd := hide (fun w => head_any (s.extract (k + j) (k + j + n)) (by simp; omega) w)
            generalize hww : headOf (s.extract (k + j) (k + j + n)) = ww at *
            clear hww
            have fa := hide (fun (word : ByteArray) (c : Int) (w : World) h1 h2 => fail_any B (B + 1 + 1 + 1) s word (by omega) (k + j) (by omega) c w h1 h2)
            obtain ⟨mj, hmj⟩ : ∃ mj, markOf (s.data.toList.take (k + j)) = mj := ⟨_, rfl⟩
            have MJ := hide hmj
            rw [hmj] at fa
            clear hmj
            obtain ⟨m1, m2⟩ := mj
            go_wp2_with fail
            go_still_tail 6, (by kernel_rfl)
            still_call ((hsk.out _).mono (fun _ _ h => ⟨h.1, h.2.symm⟩))
            repeat still_step
            refine wpStill_nil ?_
            change wpList _ _ _ _ _ wr.drew
            go_wp2_with fail
            refine (hfi.out _).mono ?_
            rintro e w9 ⟨rfl, rfl⟩
            go_wp2_with fail
            refine (hd.out _).mono ?_
            rintro e w9 ⟨rfl, rfl⟩
            go_wp2_with fail
            refine (fa.out _ _ (wr.setCell ⟨B + 1 + 1 + 1, 0, none⟩ (.int .i64 ((k : Int) + (j : Int)))).drew q0.out (by rw [Int.natCast_add]; exact q3.out)).mono ?_
            rintro e w3 ⟨rfl, hv3⟩
            have t1 : w3.heap[B + 1]? = some (.cells #[.int .i64 0, .int .i64 0, .int .i64 0, .string ⟨#[]⟩] 27) := (hv3.block (B + 1) (blk_lt q1.out)).trans q1.out
            have tB : Below B w w3 := qB.out.drew.trans (hv3.mono (by have := blk_lt q3.out; show B ≤ (wr.setCell ⟨B + 1 + 1 + 1, 0, none⟩ (.int .i64 ((k : Int) + (j : Int)))).heap.size; omega))
            clear hv3
            have c10 := blk_cell t1 0
            have c11 := blk_cell t1 1
            have c12 := blk_cell t1 2
            have c13 := blk_cell t1 3
            have f10 := blk_free t1 0
            have f11 := blk_free t1 1
            have f12 := blk_free t1 2
            have f13 := blk_free t1 3
            have T1 := hide t1
            have TB := hide tB
            clear t1 tB
            go_wp2_with fail
            have z := fun i => blk_cell (blk_set (blk_set (blk_set (blk_set T1.out 0 (.int .i64 2)) 1 (.int .i64 m1)) 2 (.int .i64 m2)) 3 (.string ww)) i
            have z0 := z 0
            have z1 := z 1
            have z2 := z 2
            have z3 := z 3
            clear z
            refine bodyPost_ret (v := .tuple #[.slice none 0 0, .agg #[.int .i64 2, .int .i64 m1, .int .i64 m2, .string ww]]) (by simp [results, Try.results48, go_sem, z0, z1, z2, z3]) rfl ⟨?_, ?_⟩
            · rw [EB.out]
              have sf := fun W => split_fault s (B + 4) W acc 2 (k + j) ww hTe.out
              rw [MJ.out] at sf
              exact sf _
            · rw [EB.out]
              exact (((TB.out.setCell (p := ⟨B + 1, 0, none⟩) (by show B ≤ B + 1; omega) _).setCell (p := ⟨B + 1, 1, none⟩) (by show B ≤ B + 1; omega) _).setCell (p := ⟨B + 1, 2, none⟩) (by show B ≤ B + 1; omega) _).setCell (p := ⟨B + 1, 3, none⟩) (by show B ≤ B + 1; omega) _
          · have htl : tooLong (firstOf (s.data.toList.drop (k + j))) = false := by simp [tooLong, hkd, hn]; try omega
            have hTT2 : Hid (T = ((acc ++ [(1, s.extract (k + j) (k + j + n), k + j)]) ++ (lexG s f (k + j + n) false).1, (lexG s f (k + j + n) false).2)) := by
              have h1 := lexG_tok s f k false (k + j) n (by rw [HJ.out]) hend hn hn0' htl
              have h2 := hTT.out
              rw [h1, hkd] at h2
              unfold Hid
              rw [h2]
              simp
            clear htl
            rw [hn, hkd] at hfi
            clear hn hkd
            have hw1 : Hid (atOf (B + 1 + 1 + 1) wr = k) := by unfold Hid atOf; rw [c3]; simp
            have cu := hide (cut_any (B + 1 + 1) B (B + 1 + 1 + 1) (B + 4) s (by omega) (k + j) n acc.length 1 v (cellsOf acc) (wr.setCell ⟨B + 1 + 1 + 1, 0, none⟩ (.int .i64 ((k : Int) + (j : Int)))).drew q2.out q0.out (by rw [Int.natCast_add]; exact q3.out) qo.out
              (by simp; omega) (by omega) (by omega) (by omega) (by omega) (by omega) (by omega) (by omega) (by omega))
            go_wp2_with fail
            go_still_tail 6, (by kernel_rfl)
            still_call ((hsk.out _).mono (fun _ _ h => ⟨h.1, h.2.symm⟩))
            repeat still_step
            refine wpStill_nil ?_
            change wpList _ _ _ _ _ wr.drew
            go_wp2_with fail
            refine (hfi.out _).mono ?_
            rintro e w9 ⟨rfl, rfl⟩
            go_wp2_with fail
            refine cu.out.mono ?_
            rintro e w2 ⟨rfl, g, cap, r2, r0, r3, ro, rc⟩
            have R0 := hide r0
            have R1 : Hid (w2.heap[B + 1]? = some (.cells #[.int .i64 0, .int .i64 0, .int .i64 0, .string ⟨#[]⟩] 27)) := (rc.block (B + 1) (blk_lt q1.out) (by omega)).trans q1.out
            have R2 := hide r2
            have R3 := hide r3
            have RO := hide ro
            have RB : Hid (Below B w w2) := qB.out.drew.trans (rc.below (by have := blk_lt q3.out; show B ≤ (wr.setCell ⟨B + 1 + 1 + 1, 0, none⟩ (.int .i64 ((k : Int) + (j : Int)))).heap.size; omega) (fun x hx => by omega))
            have rs := rc.size
            have RS : B + 4 ≤ w2.heap.size := by have := blk_lt q3.out; have h2 : (wr.setCell ⟨B + 1 + 1 + 1, 0, none⟩ (.int .i64 ((k : Int) + (j : Int)))).drew.heap.size = wr.heap.size := by simp
                                                 omega
            have hw2 : Hid (atOf (B + 1 + 1 + 1) w2 = k + j + n) := by unfold Hid atOf; rw [blk_cell r3 0]; simp; omega
            clear r0 r2 r3 ro rc rs
            go_wp2_with fail
            go_roundw
            case rel => exact ⟨k + j + n, f, acc ++ [(1, s.extract (k + j) (k + j + n), k + j)], .slice (some ⟨g, 0, none⟩) (acc.length + 1) cap, by omega, by omega, by simp; omega, R0, R1, R2, by
                have := R3.out
                rw [← Int.natCast_add] at this
                exact this, by
                unfold Hid
                rw [cellsOf_snoc, List.length_append]
                exact RO.out, RB, RS, hTT2⟩
            case measure => rw [hw1.out, hw2.out]; omega
        · by_cases hlim : (9 : Int) < (n : Int)
          · have htl : tooLong (firstOf (s.data.toList.drop (k + j))) = true := by simp [tooLong, hkd, hn]; omega
            have hTe : Hid (lexG s (s.size + 1) 0 false = (acc, some (2, k + j, headOf (s.extract (k + j) (k + j + n))))) := by
              have h1 := lexG_long s f k false (k + j) n (by rw [HJ.out]) hend hn hn0' htl
              have h2 := hTT.out
              rw [h1] at h2
              unfold Hid
              rw [← HT.out, h2]
              simp
            clear htl
            rw [hn, hkd] at hfi
            clear hn hkd
            have hd := hide (fun w => head_any (s.extract (k + j) (k + j + n)) (by simp; omega) w)
            generalize hww : headOf (s.extract (k + j) (k + j + n)) = ww at *
            clear hww
            have fa := hide (fun (word : ByteArray) (c : Int) (w : World) h1 h2 => fail_any B (B + 1 + 1 + 1) s word (by omega) (k + j) (by omega) c w h1 h2)
            obtain ⟨mj, hmj⟩ : ∃ mj, markOf (s.data.toList.take (k + j)) = mj := ⟨_, rfl⟩
            have MJ := hide hmj
            rw [hmj] at fa
            clear hmj
            obtain ⟨m1, m2⟩ := mj
            go_wp2_with fail
            go_still_tail 6, (by kernel_rfl)
            still_call ((hsk.out _).mono (fun _ _ h => ⟨h.1, h.2.symm⟩))
            repeat still_step
            refine wpStill_nil ?_
            change wpList _ _ _ _ _ wr.drew
            go_wp2_with fail
            refine (hfi.out _).mono ?_
            rintro e w9 ⟨rfl, rfl⟩
            go_wp2_with fail
            refine (hd.out _).mono ?_
            rintro e w9 ⟨rfl, rfl⟩
            go_wp2_with fail
            refine (fa.out _ _ (wr.setCell ⟨B + 1 + 1 + 1, 0, none⟩ (.int .i64 ((k : Int) + (j : Int)))).drew q0.out (by rw [Int.natCast_add]; exact q3.out)).mono ?_
            rintro e w3 ⟨rfl, hv3⟩
            have t1 : w3.heap[B + 1]? = some (.cells #[.int .i64 0, .int .i64 0, .int .i64 0, .string ⟨#[]⟩] 27) := (hv3.block (B + 1) (blk_lt q1.out)).trans q1.out
            have tB : Below B w w3 := qB.out.drew.trans (hv3.mono (by have := blk_lt q3.out; show B ≤ (wr.setCell ⟨B + 1 + 1 + 1, 0, none⟩ (.int .i64 ((k : Int) + (j : Int)))).heap.size; omega))
            clear hv3
            have c10 := blk_cell t1 0
            have c11 := blk_cell t1 1
            have c12 := blk_cell t1 2
            have c13 := blk_cell t1 3
            have f10 := blk_free t1 0
            have f11 := blk_free t1 1
            have f12 := blk_free t1 2
            have f13 := blk_free t1 3
            have T1 := hide t1
            have TB := hide tB
            clear t1 tB
            go_wp2_with fail
            have z := fun i => blk_cell (blk_set (blk_set (blk_set (blk_set T1.out 0 (.int .i64 2)) 1 (.int .i64 m1)) 2 (.int .i64 m2)) 3 (.string ww)) i
            have z0 := z 0
            have z1 := z 1
            have z2 := z 2
            have z3 := z 3
            clear z
            refine bodyPost_ret (v := .tuple #[.slice none 0 0, .agg #[.int .i64 2, .int .i64 m1, .int .i64 m2, .string ww]]) (by simp [results, Try.results48, go_sem, z0, z1, z2, z3]) rfl ⟨?_, ?_⟩
            · rw [EB.out]
              have sf := fun W => split_fault s (B + 4) W acc 2 (k + j) ww hTe.out
              rw [MJ.out] at sf
              exact sf _
            · rw [EB.out]
              exact (((TB.out.setCell (p := ⟨B + 1, 0, none⟩) (by show B ≤ B + 1; omega) _).setCell (p := ⟨B + 1, 1, none⟩) (by show B ≤ B + 1; omega) _).setCell (p := ⟨B + 1, 2, none⟩) (by show B ≤ B + 1; omega) _).setCell (p := ⟨B + 1, 3, none⟩) (by show B ≤ B + 1; omega) _
          · have htl : tooLong (firstOf (s.data.toList.drop (k + j))) = false := by simp [tooLong, hkd, hn]; try omega
            have hTT2 : Hid (T = ((acc ++ [(2, s.extract (k + j) (k + j + n), k + j)]) ++ (lexG s f (k + j + n) false).1, (lexG s f (k + j + n) false).2)) := by
              have h1 := lexG_tok s f k false (k + j) n (by rw [HJ.out]) hend hn hn0' htl
              have h2 := hTT.out
              rw [h1, hkd] at h2
              unfold Hid
              rw [h2]
              simp
            clear htl
            rw [hn, hkd] at hfi
            clear hn hkd
            have hw1 : Hid (atOf (B + 1 + 1 + 1) wr = k) := by unfold Hid atOf; rw [c3]; simp
            have cu := hide (cut_any (B + 1 + 1) B (B + 1 + 1 + 1) (B + 4) s (by omega) (k + j) n acc.length 2 v (cellsOf acc) (wr.setCell ⟨B + 1 + 1 + 1, 0, none⟩ (.int .i64 ((k : Int) + (j : Int)))).drew q2.out q0.out (by rw [Int.natCast_add]; exact q3.out) qo.out
              (by simp; omega) (by omega) (by omega) (by omega) (by omega) (by omega) (by omega) (by omega) (by omega))
            go_wp2_with fail
            go_still_tail 6, (by kernel_rfl)
            still_call ((hsk.out _).mono (fun _ _ h => ⟨h.1, h.2.symm⟩))
            repeat still_step
            refine wpStill_nil ?_
            change wpList _ _ _ _ _ wr.drew
            go_wp2_with fail
            refine (hfi.out _).mono ?_
            rintro e w9 ⟨rfl, rfl⟩
            go_wp2_with fail
            refine cu.out.mono ?_
            rintro e w2 ⟨rfl, g, cap, r2, r0, r3, ro, rc⟩
            have R0 := hide r0
            have R1 : Hid (w2.heap[B + 1]? = some (.cells #[.int .i64 0, .int .i64 0, .int .i64 0, .string ⟨#[]⟩] 27)) := (rc.block (B + 1) (blk_lt q1.out) (by omega)).trans q1.out
            have R2 := hide r2
            have R3 := hide r3
            have RO := hide ro
            have RB : Hid (Below B w w2) := qB.out.drew.trans (rc.below (by have := blk_lt q3.out; show B ≤ (wr.setCell ⟨B + 1 + 1 + 1, 0, none⟩ (.int .i64 ((k : Int) + (j : Int)))).heap.size; omega) (fun x hx => by omega))
            have rs := rc.size
            have RS : B + 4 ≤ w2.heap.size := by have := blk_lt q3.out; have h2 : (wr.setCell ⟨B + 1 + 1 + 1, 0, none⟩ (.int .i64 ((k : Int) + (j : Int)))).drew.heap.size = wr.heap.size := by simp
                                                 omega
            have hw2 : Hid (atOf (B + 1 + 1 + 1) w2 = k + j + n) := by unfold Hid atOf; rw [blk_cell r3 0]; simp; omega
            clear r0 r2 r3 ro rc rs
            go_wp2_with fail
            go_roundw
            case rel => exact ⟨k + j + n, f, acc ++ [(2, s.extract (k + j) (k + j + n), k + j)], .slice (some ⟨g, 0, none⟩) (acc.length + 1) cap, by omega, by omega, by simp; omega, R0, R1, R2, by
                have := R3.out
                rw [← Int.natCast_add] at this
                exact this, by
                unfold Hid
                rw [cellsOf_snoc, List.length_append]
                exact RO.out, RB, RS, hTT2⟩
            case measure => rw [hw1.out, hw2.out]; omega
        · have htl : tooLong (firstOf (s.data.toList.drop (k + j))) = false := by simp [tooLong, hkd, hn]; try omega
          have hTT2 : Hid (T = ((acc ++ [(3, s.extract (k + j) (k + j + n), k + j)]) ++ (lexG s f (k + j + n) false).1, (lexG s f (k + j + n) false).2)) := by
            have h1 := lexG_tok s f k false (k + j) n (by rw [HJ.out]) hend hn hn0' htl
            have h2 := hTT.out
            rw [h1, hkd] at h2
            unfold Hid
            rw [h2]
            simp
          clear htl
          rw [hn, hkd] at hfi
          clear hn hkd
          have hw1 : Hid (atOf (B + 1 + 1 + 1) wr = k) := by unfold Hid atOf; rw [c3]; simp
          have cu := hide (cut_any (B + 1 + 1) B (B + 1 + 1 + 1) (B + 4) s (by omega) (k + j) n acc.length 3 v (cellsOf acc) (wr.setCell ⟨B + 1 + 1 + 1, 0, none⟩ (.int .i64 ((k : Int) + (j : Int)))).drew q2.out q0.out (by rw [Int.natCast_add]; exact q3.out) qo.out
            (by simp; omega) (by omega) (by omega) (by omega) (by omega) (by omega) (by omega) (by omega) (by omega))
          go_wp2_with fail
          go_still_tail 6, (by kernel_rfl)
          still_call ((hsk.out _).mono (fun _ _ h => ⟨h.1, h.2.symm⟩))
          repeat still_step
          refine wpStill_nil ?_
          change wpList _ _ _ _ _ wr.drew
          go_wp2_with fail
          refine (hfi.out _).mono ?_
          rintro e w9 ⟨rfl, rfl⟩
          go_wp2_with fail
          refine cu.out.mono ?_
          rintro e w2 ⟨rfl, g, cap, r2, r0, r3, ro, rc⟩
          have R0 := hide r0
          have R1 : Hid (w2.heap[B + 1]? = some (.cells #[.int .i64 0, .int .i64 0, .int .i64 0, .string ⟨#[]⟩] 27)) := (rc.block (B + 1) (blk_lt q1.out) (by omega)).trans q1.out
          have R2 := hide r2
          have R3 := hide r3
          have RO := hide ro
          have RB : Hid (Below B w w2) := qB.out.drew.trans (rc.below (by have := blk_lt q3.out; show B ≤ (wr.setCell ⟨B + 1 + 1 + 1, 0, none⟩ (.int .i64 ((k : Int) + (j : Int)))).heap.size; omega) (fun x hx => by omega))
          have rs := rc.size
          have RS : B + 4 ≤ w2.heap.size := by have := blk_lt q3.out; have h2 : (wr.setCell ⟨B + 1 + 1 + 1, 0, none⟩ (.int .i64 ((k : Int) + (j : Int)))).drew.heap.size = wr.heap.size := by simp
                                               omega
          have hw2 : Hid (atOf (B + 1 + 1 + 1) w2 = k + j + n) := by unfold Hid atOf; rw [blk_cell r3 0]; simp; omega
          clear r0 r2 r3 ro rc rs
          go_wp2_with fail
          go_roundw
          case rel => exact ⟨k + j + n, f, acc ++ [(3, s.extract (k + j) (k + j + n), k + j)], .slice (some ⟨g, 0, none⟩) (acc.length + 1) cap, by omega, by omega, by simp; omega, R0, R1, R2, by
              have := R3.out
              rw [← Int.natCast_add] at this
              exact this, by
              unfold Hid
              rw [cellsOf_snoc, List.length_append]
              exact RO.out, RB, RS, hTT2⟩
          case measure => rw [hw1.out, hw2.out]; omega
end Go.Proofs.Ytboeeaekhijboaa
