/- The document's scanners (package filigreeref03) and filigreeref01.Of. -/
import Derived.Test.YtboeeaekhijboaaLines
namespace Go.Proofs.Ytboeeaekhijboaa
open Go.RowKit

/-- is a byte among a text's -/
def has (s : ByteArray) (c : UInt8) : Bool := s.data.toList.contains c

theorem among_any (c : UInt8) (s : ByteArray) (hl : s.size ≤ 1000) (w : World) :
    Calls Try.prog 61 #[.int .u8 (c.toNat : Int), .string s] w fun e w' => e = .returned (.bool (has s c)) ∧ w = w' := by
  go_enter Try.func61, Try.ntmps61
  go_wp2_with fail
  go_loop [5] (fun i => ∃ k : Nat, k ≤ s.size ∧ i = .int .i64 k ∧ Hid ((s.data.toList.drop k).contains c = s.data.toList.contains c)) (fun i => s.size - (intOf i).toNat)
  case atStart => exact ⟨0, Nat.zero_le _, rfl, by simp [Hid]⟩
  case round =>
    obtain ⟨k, hk, rfl, hr⟩ := hrel
    by_cases hlt : k < s.size
    · have hc := bs_get s k hlt
      have hr2 := hr.out
      rw [hc, List.contains_cons] at hr2
      cases hb : (s[k] == c)
      · have hbe : ((s[k].toNat : Int) == (c.toNat : Int)) = false := by rw [byte_beq s[k] c _ rfl]; exact hb
        have hcb : (c == s[k]) = false := by
          rw [beq_eq_false_iff_ne] at hb ⊢
          exact fun e => hb e.symm
        rw [hcb, Bool.false_or] at hr2
        have E := hide hr2
        clear hc hr hr2 hb hcb
        go_wp2_with fail
        go_round
        case rel => exact ⟨k + 1, by omega, by go_num, E⟩
        case measure => simp [intOf]; omega
      · have hbe : ((s[k].toNat : Int) == (c.toNat : Int)) = true := by rw [byte_beq s[k] c _ rfl]; exact hb
        have hcb : (c == s[k]) = true := by
          rw [beq_iff_eq] at hb ⊢
          exact hb.symm
        rw [hcb, Bool.true_or] at hr2
        have E := hide hr2
        clear hc hr hr2 hb hcb
        go_wp2_with fail
        go_ret
        exact ⟨ret_bool (by rw [has, ← E.out]), rfl⟩
    · have e : s.data.toList.contains c = false := by
        rw [← hr.out, List.drop_eq_nil_of_le (by simp; omega)]; rfl
      have E := hide e
      clear e hr
      go_wp2_with fail
      go_ret
      exact ⟨ret_bool (by rw [has, E.out]), rfl⟩

theorem all_bytes (p : UInt8 → Bool) (h : ∀ n : Fin 256, p (UInt8.ofNat n.val) = true) (c : UInt8) : p c = true := by
  have := h ⟨c.toNat, c.toNat_lt⟩
  simpa using this

theorem letters_eq (c : UInt8) : List.contains [97, 98, 99, 100, 101, 102, 103, 104, 105, 106, 107, 108, 109, 110, 111, 112, 113, 114, 115, 116, 117, 118, 119, 120, 121, 122, 65, 66, 67, 68, 69, 70, 71, 72, 73, 74, 75, 76, 77, 78, 79, 80, 81, 82, 83, 84, 85, 86, 87, 88, 89, 90] c = isLetter c := by
  have := all_bytes (fun c => List.contains [97, 98, 99, 100, 101, 102, 103, 104, 105, 106, 107, 108, 109, 110, 111, 112, 113, 114, 115, 116, 117, 118, 119, 120, 121, 122, 65, 66, 67, 68, 69, 70, 71, 72, 73, 74, 75, 76, 77, 78, 79, 80, 81, 82, 83, 84, 85, 86, 87, 88, 89, 90] c == isLetter c) (by decide +kernel) c
  exact beq_iff_eq.1 this
theorem digits_eq (c : UInt8) : List.contains [48, 49, 50, 51, 52, 53, 54, 55, 56, 57] c = isDigit c :=
  beq_iff_eq.1 (all_bytes (fun c => List.contains [48, 49, 50, 51, 52, 53, 54, 55, 56, 57] c == isDigit c) (by decide +kernel) c)
theorem inners_eq (c : UInt8) : (isLetter c || List.contains [48, 49, 50, 51, 52, 53, 54, 55, 56, 57, 95, 39] c) = isInner c :=
  beq_iff_eq.1 (all_bytes (fun c => (isLetter c || List.contains [48, 49, 50, 51, 52, 53, 54, 55, 56, 57, 95, 39] c) == isInner c) (by decide +kernel) c)
theorem blanks_eq (c : UInt8) : List.contains [32, 9, 10, 13, 35] c = (isBlank c || c == 35) :=
  beq_iff_eq.1 (all_bytes (fun c => List.contains [32, 9, 10, 13, 35] c == (isBlank c || c == 35)) (by decide +kernel) c)

theorem refLetter (c : UInt8) (w : World) : Calls Try.prog 62 #[.int .u8 (c.toNat : Int)] w fun e w' => e = .returned (.bool (isLetter c)) ∧ w = w' := by
  have am := among_any c ⟨#[97, 98, 99, 100, 101, 102, 103, 104, 105, 106, 107, 108, 109, 110, 111, 112, 113, 114, 115, 116, 117, 118, 119, 120, 121, 122, 65, 66, 67, 68, 69, 70, 71, 72, 73, 74, 75, 76, 77, 78, 79, 80, 81, 82, 83, 84, 85, 86, 87, 88, 89, 90]⟩ (by decide) w
  have e := letters_eq c
  have am2 := hide (am.mono (R' := fun e w' => e = .returned (.bool (isLetter c)) ∧ w = w') (fun _ _ ⟨h1, h2⟩ => ⟨by rw [h1]; exact ret_bool e, h2⟩))
  clear am e
  go_enter Try.func62, Try.ntmps62
  go_wp2_with fail
  refine am2.out.mono ?_
  rintro e w' ⟨rfl, rfl⟩
  go_wp2_with fail
  go_ret
  exact ⟨rfl, rfl⟩

theorem refDigit (c : UInt8) (w : World) : Calls Try.prog 64 #[.int .u8 (c.toNat : Int)] w fun e w' => e = .returned (.bool (isDigit c)) ∧ w = w' := by
  have am := among_any c ⟨#[48, 49, 50, 51, 52, 53, 54, 55, 56, 57]⟩ (by decide) w
  have e := digits_eq c
  have am2 := hide (am.mono (R' := fun e w' => e = .returned (.bool (isDigit c)) ∧ w = w') (fun _ _ ⟨h1, h2⟩ => ⟨by rw [h1]; exact ret_bool e, h2⟩))
  clear am e
  go_enter Try.func64, Try.ntmps64
  go_wp2_with fail
  refine am2.out.mono ?_
  rintro e w' ⟨rfl, rfl⟩
  go_wp2_with fail
  go_ret
  exact ⟨rfl, rfl⟩

theorem refInner (c : UInt8) (w : World) : Calls Try.prog 63 #[.int .u8 (c.toNat : Int)] w fun e w' => e = .returned (.bool (isInner c)) ∧ w = w' := by
  have am := among_any c ⟨#[48, 49, 50, 51, 52, 53, 54, 55, 56, 57, 95, 39]⟩ (by decide) w
  have lt := hide (refLetter c w)
  have e := inners_eq c
  cases h : isLetter c
  · rw [h, Bool.false_or] at e
    have am2 := hide (am.mono (R' := fun e w' => e = .returned (.bool (isInner c)) ∧ w = w') (fun _ _ ⟨h1, h2⟩ => ⟨by rw [h1]; exact ret_bool e, h2⟩))
    rw [h] at lt
    clear am e h
    go_enter Try.func63, Try.ntmps63
    go_wp2_with fail
    refine lt.out.mono ?_
    rintro e w' ⟨rfl, rfl⟩
    go_wp2_with fail
    refine am2.out.mono ?_
    rintro e w' ⟨rfl, rfl⟩
    go_wp2_with fail
    go_ret
    exact ⟨rfl, rfl⟩
  · rw [h, Bool.true_or] at e
    rw [h] at lt
    rw [← e]
    clear am e h
    go_enter Try.func63, Try.ntmps63
    go_wp2_with fail
    refine lt.out.mono ?_
    rintro e w' ⟨rfl, rfl⟩
    go_wp2_with fail
    go_ret
    exact ⟨rfl, rfl⟩

theorem markOf_bd (l : List UInt8) : 1 ≤ (markOf l).1 ∧ (markOf l).1 ≤ 1 + l.length ∧ 1 ≤ (markOf l).2 ∧ (markOf l).2 ≤ 1 + l.length := by
  have gen : ∀ (l : List UInt8) (m : Int × Int), 1 ≤ m.2 → m.1 ≤ (l.foldl stepMark m).1 ∧ (l.foldl stepMark m).1 ≤ m.1 + l.length ∧ 1 ≤ (l.foldl stepMark m).2 ∧ (l.foldl stepMark m).2 ≤ m.2 + l.length := by
    intro l
    induction l with
    | nil => intro m h; simp; omega
    | cons c r ih =>
      intro m h
      simp only [List.foldl_cons, List.length_cons]
      by_cases hc : c = 10
      · have := ih (m.1 + 1, 1) (by simp)
        simp only [stepMark, if_pos hc]
        simp at this
        omega
      · have := ih (m.1, m.2 + 1) (by show 1 ≤ m.2 + 1; omega)
        simp only [stepMark, if_neg hc]
        simp at this
        omega
  have := gen l (1, 1) (by simp)
  unfold markOf
  simp at this
  omega

theorem markOf_at (s : ByteArray) (i : Nat) (h : i < s.size) : markOf (s.data.toList.take (i + 1)) = stepMark (markOf (s.data.toList.take i)) s[i] := by
  rw [markOf_succ _ _ (by simpa using h)]
  rfl

/-- filigreeref01.Of -/
theorem refOf (s : ByteArray) (hs : s.size ≤ 1000000) (k : Nat) (hk : k ≤ s.size) (w : World) :
    Calls Try.prog 65 #[.string s, .int .i64 k] w fun e w' => e = .returned (.agg #[.int .i64 (markOf (s.data.toList.take k)).1, .int .i64 (markOf (s.data.toList.take k)).2]) ∧ Below w.heap.size w w' := by
  go_enter Try.func65, Try.ntmps65
  go_wp2_with fail
  obtain ⟨W0, hW0⟩ : ∃ W0, ((w.alloc (Obj.cells #[Value.int IntKind.i64 0, Value.int IntKind.i64 0] 31)).alloc (Obj.cells #[Value.int IntKind.i64 1, Value.int IntKind.i64 1] 31)) = W0 := ⟨_, rfl⟩
  have e1 := blk_new w (Obj.cells #[Value.int IntKind.i64 0, Value.int IntKind.i64 0] 31)
  have e2 := blk_new (w.alloc (Obj.cells #[Value.int IntKind.i64 0, Value.int IntKind.i64 0] 31)) (Obj.cells #[Value.int IntKind.i64 1, Value.int IntKind.i64 1] 31)
  have hB0 : Below w.heap.size w ((w.alloc (Obj.cells #[Value.int IntKind.i64 0, Value.int IntKind.i64 0] 31)).alloc (Obj.cells #[Value.int IntKind.i64 1, Value.int IntKind.i64 1] 31)) := ((Below.refl _ w).alloc (Nat.le_refl _) _).alloc (by simp) _
  have e1' := blk_alloc (o' := (Obj.cells #[Value.int IntKind.i64 1, Value.int IntKind.i64 1] 31)) e1
  simp only [World.size_alloc] at e2
  clear e1
  rw [hW0] at e1' e2 hB0 ⊢
  clear hW0
  have E1 := hide e1'
  have E2 := hide e2
  have HB := hide hB0
  clear e1' e2 hB0
  generalize hB : w.heap.size = B at *
  have EB := hide hB
  clear hB
  go_loopw [6] (fun i wr => ∃ j : Nat, j ≤ k ∧ i = .int .i64 j ∧ wr.heap[B]? = some (.cells #[.int .i64 0, .int .i64 0] 31) ∧ wr.heap[B + 1]? = some (.cells #[.int .i64 (markOf (s.data.toList.take j)).1, .int .i64 (markOf (s.data.toList.take j)).2] 31) ∧ Below B w wr) (fun i _ => k - (intOf i).toNat)
  case atStart => exact ⟨0, Nat.zero_le _, rfl, E1.out, E2.out, HB.out⟩
  case round =>
    obtain ⟨j, hj, rfl, b0, b1, hb⟩ := hrel
    have bd := markOf_bd (s.data.toList.take j)
    have hlen : (s.data.toList.take j).length = j := by simp; omega
    rw [hlen] at bd
    obtain ⟨bd1, bd2, bd3, bd4⟩ := bd
    have c10 := blk_cell b1 0
    have c11 := blk_cell b1 1
    have f10 := blk_free b1 0
    have f11 := blk_free b1 1
    have c00 := blk_cell b0 0
    have c01 := blk_cell b0 1
    have f00 := blk_free b0 0
    have f01 := blk_free b0 1
    have H0 := hide b0
    have H1 := hide b1
    have HB2 := hide hb
    clear b0 b1 hb hlen
    by_cases hlt : j < k
    · have hms := markOf_at s j (by omega)
      have hjs : j < s.size := by omega
      cases h10 : (s[j] == 10)
      · have hb10 : ((s[j].toNat : Int) == 10) = false := by rw [byte_beq s[j] 10 10 rfl]; exact h10
        have e : markOf (s.data.toList.take (j + 1)) = ((markOf (s.data.toList.take j)).1, (markOf (s.data.toList.take j)).2 + 1) := by
          rw [hms]; unfold stepMark; rw [if_neg (by simpa using h10)]
        have E := hide e
        clear hms h10 e
        generalize (markOf (s.data.toList.take j)) = mj at *
        obtain ⟨m1, m2⟩ := mj
        go_wp2_with fail
        go_roundw
        case rel => exact ⟨j + 1, by omega, by go_num, blk_other (blk_other H0.out (by omega) _ _) (by omega) _ _, by
          rw [E.out]
          exact blk_set (blk_set H1.out 0 _) 1 _, (HB2.out.setCell (p := ⟨B + 1, 0, none⟩) (by show B ≤ B + 1; omega) _).setCell (p := ⟨B + 1, 1, none⟩) (by show B ≤ B + 1; omega) _⟩
        case measure => simp [intOf]; omega
      · have hb10 : ((s[j].toNat : Int) == 10) = true := by rw [byte_beq s[j] 10 10 rfl]; exact h10
        have e : markOf (s.data.toList.take (j + 1)) = ((markOf (s.data.toList.take j)).1 + 1, 1) := by
          rw [hms]; unfold stepMark; rw [if_pos (by simpa using h10)]
        have E := hide e
        clear hms h10 e
        generalize (markOf (s.data.toList.take j)) = mj at *
        obtain ⟨m1, m2⟩ := mj
        go_wp2_with fail
        go_roundw
        case rel => exact ⟨j + 1, by omega, by go_num, blk_other (blk_other H0.out (by omega) _ _) (by omega) _ _, by
          rw [E.out]
          exact blk_set (blk_set H1.out 0 _) 1 _, (HB2.out.setCell (p := ⟨B + 1, 0, none⟩) (by show B ≤ B + 1; omega) _).setCell (p := ⟨B + 1, 1, none⟩) (by show B ≤ B + 1; omega) _⟩
        case measure => simp [intOf]; omega
    · obtain rfl : j = k := by omega
      obtain ⟨mj, hmj⟩ : ∃ mj, markOf (s.data.toList.take j) = mj := ⟨_, rfl⟩
      have M := hide hmj
      rw [hmj] at bd1 bd2 bd3 bd4 c10 c11 H1
      clear hmj
      obtain ⟨m1, m2⟩ := mj
      go_wp2_with fail
      have q0 := blk_cell (blk_set (blk_set H0.out 0 (.int .i64 m1)) 1 (.int .i64 m2)) 0
      have q1 := blk_cell (blk_set (blk_set H0.out 0 (.int .i64 m1)) 1 (.int .i64 m2)) 1
      refine bodyPost_ret (v := .agg #[.int .i64 m1, .int .i64 m2]) (by simp [results, Try.results65, go_sem, q0, q1]) rfl ⟨by rw [M.out], ?_⟩
      rw [EB.out]
      exact (HB2.out.setCell (p := ⟨B, 0, none⟩) (Nat.le_refl _) _).setCell (p := ⟨B, 1, none⟩) (Nat.le_refl _) _
end Go.Proofs.Ytboeeaekhijboaa
