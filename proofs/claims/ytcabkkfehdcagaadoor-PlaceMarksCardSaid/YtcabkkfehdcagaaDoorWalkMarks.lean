/- The walk of PlaceMarks. -/
import Derived.Test.YtcabkkfehdcagaaDoorWalkOrders
import Derived.Test.YtcabkkfehdcagaaDoorRefAt
import Derived.Test.YtcabkkfehdcagaaDoorPlaceLaw
namespace Go.Proofs.YtcabkkfehdcagaaDoor
open Go.RowKit Go.Shelf
attribute [local go_sem] Oper.semAt_some
set_option linter.unusedVariables false
set_option linter.unusedSimpArgs false

set_option maxRecDepth 100000 in
theorem of_bad_in (s : ByteArray) (at_ : Int) (h : at_ < 0 ∨ (s.size : Int) < at_) (w : World) :
    CallsIn Fence.wide 4 Tryd.prog 18 #[.string s, .int .i64 at_] w fun e W' => e = .returned (.tuple #[.agg #[.int .i64 0, .int .i64 0], .int .i64 1]) ∧ Below w.heap.size w W' := by
  by_cases h0 : at_ < 0
  · have d1 : decide (at_ < 0) = true := by simp [h0]
    clear h
    refine callsIn_of_wp_marks Tryd.func18 rfl trivial ?_ rfl
    simp only [Tryd.ntmps18, List.size_toArray, List.length_cons, List.length_nil, Nat.reduceAdd, Nat.reduceSub, Array.replicate_succ, Array.replicate_zero, List.push_toArray, List.append_toArray, List.nil_append, List.cons_append]
    gi_wp2
    have q0 : (((w.alloc (Obj.cells #[Value.int IntKind.i64 at_] 3)).alloc (Obj.cells #[Value.int IntKind.i64 0, Value.int IntKind.i64 0] 30)).alloc (Obj.cells #[Value.int IntKind.i64 1] 29)).heap[w.heap.size + 1]? = some (Obj.cells #[Value.int IntKind.i64 0, Value.int IntKind.i64 0] 30) := by
      have := blk_new (w.alloc (Obj.cells #[Value.int IntKind.i64 at_] 3)) (Obj.cells #[Value.int IntKind.i64 0, Value.int IntKind.i64 0] 30)
      simp only [World.size_alloc] at this
      exact blk_alloc this
    have q1 : (((w.alloc (Obj.cells #[Value.int IntKind.i64 at_] 3)).alloc (Obj.cells #[Value.int IntKind.i64 0, Value.int IntKind.i64 0] 30)).alloc (Obj.cells #[Value.int IntKind.i64 1] 29)).heap[w.heap.size + 1 + 1]? = some (Obj.cells #[Value.int IntKind.i64 1] 29) := by
      have := blk_new ((w.alloc (Obj.cells #[Value.int IntKind.i64 at_] 3)).alloc (Obj.cells #[Value.int IntKind.i64 0, Value.int IntKind.i64 0] 30)) (Obj.cells #[Value.int IntKind.i64 1] 29)
      simp only [World.size_alloc] at this
      exact this
    have c0 := blk_cell q0 0
    have c1 := blk_cell q0 1
    have c2 := blk_cell q1 0
    refine ⟨.tuple #[.agg #[.int .i64 0, .int .i64 0], .int .i64 1], ?_, rfl, ((((Below.refl _ w).alloc (Nat.le_refl _) _).alloc (by simp) _).alloc (by simp only [World.size_alloc]; omega) _)⟩
    simp [results, Tryd.f18, go_sem, c0, c1, c2]
  · have h1 : (s.size : Int) < at_ := by omega
    have d1 : decide (at_ < 0) = false := by simp; omega
    have d2 : decide ((s.size : Int) < at_) = true := by simp [h1]
    clear h
    refine callsIn_of_wp_marks Tryd.func18 rfl trivial ?_ rfl
    simp only [Tryd.ntmps18, List.size_toArray, List.length_cons, List.length_nil, Nat.reduceAdd, Nat.reduceSub, Array.replicate_succ, Array.replicate_zero, List.push_toArray, List.append_toArray, List.nil_append, List.cons_append]
    gi_wp2
    have q0 : (((w.alloc (Obj.cells #[Value.int IntKind.i64 at_] 3)).alloc (Obj.cells #[Value.int IntKind.i64 0, Value.int IntKind.i64 0] 30)).alloc (Obj.cells #[Value.int IntKind.i64 1] 29)).heap[w.heap.size + 1]? = some (Obj.cells #[Value.int IntKind.i64 0, Value.int IntKind.i64 0] 30) := by
      have := blk_new (w.alloc (Obj.cells #[Value.int IntKind.i64 at_] 3)) (Obj.cells #[Value.int IntKind.i64 0, Value.int IntKind.i64 0] 30)
      simp only [World.size_alloc] at this
      exact blk_alloc this
    have q1 : (((w.alloc (Obj.cells #[Value.int IntKind.i64 at_] 3)).alloc (Obj.cells #[Value.int IntKind.i64 0, Value.int IntKind.i64 0] 30)).alloc (Obj.cells #[Value.int IntKind.i64 1] 29)).heap[w.heap.size + 1 + 1]? = some (Obj.cells #[Value.int IntKind.i64 1] 29) := by
      have := blk_new ((w.alloc (Obj.cells #[Value.int IntKind.i64 at_] 3)).alloc (Obj.cells #[Value.int IntKind.i64 0, Value.int IntKind.i64 0] 30)) (Obj.cells #[Value.int IntKind.i64 1] 29)
      simp only [World.size_alloc] at this
      exact this
    have c0 := blk_cell q0 0
    have c1 := blk_cell q0 1
    have c2 := blk_cell q1 0
    refine ⟨.tuple #[.agg #[.int .i64 0, .int .i64 0], .int .i64 1], ?_, rfl, ((((Below.refl _ w).alloc (Nat.le_refl _) _).alloc (by simp) _).alloc (by simp only [World.size_alloc]; omega) _)⟩
    simp [results, Tryd.f18, go_sem, c0, c1, c2]


theorem of_bad (s : ByteArray) (at_ : Int) (h : at_ < 0 ∨ (s.size : Int) < at_) (w : World) :
    Calls Tryd.prog 18 #[.string s, .int .i64 at_] w fun e W' => e = .returned (.tuple #[.agg #[.int .i64 0, .int .i64 0], .int .i64 1]) ∧ Below w.heap.size w W' :=
  callsIn_wide.1 (of_bad_in s at_ h w)

theorem mark_inj (s : ByteArray) (i j : Nat) (hi : i ≤ s.size) (hj : j ≤ s.size) (h : markOf (s.data.toList.take i) = markOf (s.data.toList.take j)) : i = j := by
  have hlen : s.data.toList.length = s.size := by simp
  rcases Nat.lt_trichotomy i j with h1 | h1 | h1
  · obtain ⟨d, rfl⟩ : ∃ d, j = i + d + 1 := ⟨j - i - 1, by omega⟩
    have := mark_lt s.data.toList i d (by omega)
    rw [h] at this
    unfold lt2 at this
    omega
  · exact h1
  · obtain ⟨d, rfl⟩ : ∃ d, i = j + d + 1 := ⟨i - j - 1, by omega⟩
    have := mark_lt s.data.toList j d (by omega)
    rw [h] at this
    unfold lt2 at this
    omega

/-- what both At's tell of a mark: where it is (or 0), whether there is one -/
def AtIs (s : ByteArray) (x y : Int) (n : Int) (ok : Bool) : Prop :=
  (∃ k : Nat, k ≤ s.size ∧ markOf (s.data.toList.take k) = (x, y) ∧ n = k ∧ ok = true) ∨ ((∀ k : Nat, k ≤ s.size → markOf (s.data.toList.take k) ≠ (x, y)) ∧ n = 0 ∧ ok = false)
theorem atIs_ex (s : ByteArray) (x y : Int) : ∃ n ok, AtIs s x y n ok := by
  by_cases h : ∃ k : Nat, k ≤ s.size ∧ markOf (s.data.toList.take k) = (x, y)
  · obtain ⟨k, h1, h2⟩ := h
    exact ⟨k, true, .inl ⟨k, h1, h2, rfl, rfl⟩⟩
  · exact ⟨0, false, .inr ⟨fun k h1 h2 => h ⟨k, h1, h2⟩, rfl, rfl⟩⟩
theorem at_c (s : ByteArray) (hs : s.size ≤ 1000000) (x y n : Int) (ok : Bool) (h : AtIs s x y n ok) (w : World) :
    Calls Tryd.prog 19 #[.string s, .agg #[.int .i64 x, .int .i64 y]] w fun e W' => e = .returned (.tuple #[.int .i64 n, .int .i64 (if ok then 0 else 10)]) ∧ Below w.heap.size w W' := by
  refine (at_any s hs x y w).mono ?_
  rintro e w' ⟨h1, hB⟩
  refine ⟨?_, hB⟩
  rcases at_told s x y e h1 with ⟨k, k1, k2, rfl⟩ | ⟨k1, rfl⟩
  · rcases h with ⟨j, j1, j2, rfl, rfl⟩ | ⟨j1, -, -⟩
    · have := mark_inj s k j k1 j1 (k2.trans j2.symm)
      subst this
      rfl
    · exact absurd k2 (j1 k k1)
  · rcases h with ⟨j, j1, j2, -, -⟩ | ⟨j1, rfl, rfl⟩
    · exact absurd j2 (k1 j j1)
    · rfl
theorem refAt_c (s : ByteArray) (hs : s.size ≤ 1000000) (x y n : Int) (ok : Bool) (h : AtIs s x y n ok) (w : World) :
    Calls Tryd.prog 20 #[.string s, .agg #[.int .i64 x, .int .i64 y]] w fun e W' => e = .returned (.tuple #[.int .i64 n, .bool ok]) ∧ Below w.heap.size w W' := by
  refine (refAt_any s hs x y w).mono ?_
  rintro e w' ⟨h1, hB⟩
  refine ⟨?_, hB⟩
  rcases h1 with ⟨k, k1, k2, rfl⟩ | ⟨k1, rfl⟩
  · rcases h with ⟨j, j1, j2, rfl, rfl⟩ | ⟨j1, -, -⟩
    · have := mark_inj s k j k1 j1 (k2.trans j2.symm)
      subst this
      rfl
    · exact absurd k2 (j1 k k1)
  · rcases h with ⟨j, j1, j2, -, -⟩ | ⟨j1, rfl, rfl⟩
    · exact absurd j2 (k1 j j1)
    · rfl

set_option maxRecDepth 100000 in
set_option maxHeartbeats 8000000 in
theorem marks_walk (s : ByteArray) (at_ m1 m2 : Int) (hl : s.size ≤ 9223372036854775807) (w : World) (hT : Tabs w) :
    Calls Tryd.prog 5 #[.string s, .int .i64 at_, .agg #[.int .i64 m1, .int .i64 m2]] w fun e w' => e = .returned (.bool true) ∧ Below w.heap.size w w' := by
  have fw := hide (fun w => few_any s hl w)
  have hx : (s.extract 0 (min (s.size : Int) 1000).toNat).size ≤ 1000 := by simp; omega
  generalize s.extract 0 (min (s.size : Int) 1000).toNat = S at *
  obtain ⟨n, ok, hat⟩ := atIs_ex S m1 m2
  have ac := hide (fun w => at_c S (by omega) m1 m2 n ok hat w)
  have rc := hide (fun w => refAt_c S (by omega) m1 m2 n ok hat w)
  have hn : ok = false → n = 0 := by
    rcases hat with ⟨_, _, _, _, rfl⟩ | ⟨_, rfl, _⟩
    · intro h; cases h
    · intro _; rfl
  clear hat
  by_cases hin : 0 ≤ at_ ∧ at_ ≤ (S.size : Int)
  · obtain ⟨k, rfl⟩ : ∃ k : Nat, at_ = (k : Int) := ⟨at_.toNat, by omega⟩
    have hk : k ≤ S.size := by omega
    have oc := hide (fun w => of_any S (by omega) k hk w)
    have ro := hide (fun w => refOf S (by omega) k hk w)
    obtain ⟨p, hp⟩ : ∃ p, markOf (S.data.toList.take k) = p := ⟨_, rfl⟩
    obtain ⟨p1, p2⟩ := p
    have bc := hide (fun w => at_c S (by omega) p1 p2 k true (.inl ⟨k, hk, hp, rfl, rfl⟩) w)
    rw [hp] at oc ro
    have hkI : (k : Int) ≤ (S.size : Int) := by omega
    have hkN : decide (S.size < k) = false := by simp; omega
    clear hp hin
    cases ok
    · have hn0 := hn rfl
      subst hn0
      clear hn
      go_enter Tryd.func5, Tryd.ntmps5
      go_wp2_with fail
      refine (fw.out _).mono ?_
      rintro e w1 ⟨rfl, rfl⟩
      have a0 := blk_new w (Obj.cells #[Value.int IntKind.i64 m1, Value.int IntKind.i64 m2] 23)
      have hsa : (w.alloc (Obj.cells #[Value.int IntKind.i64 m1, Value.int IntKind.i64 m2] 23)).heap.size = w.heap.size + 1 := by simp
      have qB : Below w.heap.size w (w.alloc (Obj.cells #[Value.int IntKind.i64 m1, Value.int IntKind.i64 m2] 23)) := (Below.refl _ w).alloc (Nat.le_refl _) _
      go_wp2_with fail
      refine (oc.out _).mono ?_
      rintro e w2 ⟨rfl, h2⟩
      have a2 := (h2.block w.heap.size (by omega)).trans a0
      have qB2 := qB.trans (h2.mono (by omega))
      have a3 := blk_alloc (o' := Obj.cells #[Value.int IntKind.i64 p1, Value.int IntKind.i64 p2] 30) a2
      have x3 := blk_new w2 (Obj.cells #[Value.int IntKind.i64 p1, Value.int IntKind.i64 p2] 30)
      have qB3 := qB2.alloc qB2.size (Obj.cells #[Value.int IntKind.i64 p1, Value.int IntKind.i64 p2] 30)
      have hs3 : (w2.alloc (Obj.cells #[Value.int IntKind.i64 p1, Value.int IntKind.i64 p2] 30)).heap.size = w2.heap.size + 1 := by simp
      have la := blk_lt a2
      have c0 := blk_cell a3 0
      have c1 := blk_cell a3 1
      clear a0 hsa qB h2 a2
      go_wp2_with fail
      refine (to_any _ _ _).mono ?_
      rintro e w3 ⟨rfl, h3⟩
      have x4 := (h3.block w2.heap.size (by omega)).trans x3
      have a4 := (h3.block w.heap.size (by omega)).trans a3
      have qB4 := qB3.trans (h3.mono (by have := qB2.size; omega))
      have ls := h3.size
      clear h3 x3 a3 c0 c1 qB3
      go_wp2_with fail
      refine (ac.out _).mono ?_
      rintro e w4 ⟨rfl, h4⟩
      have x5 := (h4.block w2.heap.size (by omega)).trans x4
      have a5 := (h4.block w.heap.size (by omega)).trans a4
      have qB5 := qB4.trans (h4.mono qB4.size)
      have c0 := blk_cell a5 0
      have c1 := blk_cell a5 1
      have ls2 := h4.size
      clear h4 x4 a4 qB4
      go_wp2_with fail
      refine (rc.out _).mono ?_
      rintro e w5 ⟨rfl, h5⟩
      have x6 := (h5.block w2.heap.size (by omega)).trans x5
      have qB6 := qB5.trans (h5.mono qB5.size)
      have ls3 := h5.size
      clear h5 x5 a5 c0 c1 qB5
      go_wp2_with fail
      refine (known_any _ (hT.below qB6)).mono ?_
      rintro e w6 ⟨rfl, h6⟩
      have x7 := (h6.block w2.heap.size (by omega)).trans x6
      have qB7 := qB6.trans (h6.mono qB6.size)
      have ls4 := h6.size
      have c0 := blk_cell x7 0
      have c1 := blk_cell x7 1
      clear h6 x6 qB6
      go_wp2_with fail
      refine (bc.out _).mono ?_
      rintro e w7 ⟨rfl, h7⟩
      have x8 := (h7.block w2.heap.size (by omega)).trans x7
      have qB8 := qB7.trans (h7.mono qB7.size)
      have ls5 := h7.size
      have c0 := blk_cell x8 0
      have c1 := blk_cell x8 1
      clear h7 x7 qB7
      have oc2 := hide tof_any
      go_wp2_with fail
      refine (oc2.out _ _ _).mono ?_
      rintro e w8 ⟨rfl, h8⟩
      have qB9 := qB8.trans (h8.mono qB8.size)
      clear h8
      go_wp2_with fail
      refine (ro.out _).mono ?_
      rintro e w9 ⟨rfl, h9⟩
      have qB10 := qB9.trans (h9.mono qB9.size)
      clear h9
      go_wp2_with fail
      go_ret
      exact ⟨rfl, qB10⟩
    · clear hn
      go_enter Tryd.func5, Tryd.ntmps5
      go_wp2_with fail
      refine (fw.out _).mono ?_
      rintro e w1 ⟨rfl, rfl⟩
      have a0 := blk_new w (Obj.cells #[Value.int IntKind.i64 m1, Value.int IntKind.i64 m2] 23)
      have hsa : (w.alloc (Obj.cells #[Value.int IntKind.i64 m1, Value.int IntKind.i64 m2] 23)).heap.size = w.heap.size + 1 := by simp
      have qB : Below w.heap.size w (w.alloc (Obj.cells #[Value.int IntKind.i64 m1, Value.int IntKind.i64 m2] 23)) := (Below.refl _ w).alloc (Nat.le_refl _) _
      go_wp2_with fail
      refine (oc.out _).mono ?_
      rintro e w2 ⟨rfl, h2⟩
      have a2 := (h2.block w.heap.size (by omega)).trans a0
      have qB2 := qB.trans (h2.mono (by omega))
      have a3 := blk_alloc (o' := Obj.cells #[Value.int IntKind.i64 p1, Value.int IntKind.i64 p2] 30) a2
      have x3 := blk_new w2 (Obj.cells #[Value.int IntKind.i64 p1, Value.int IntKind.i64 p2] 30)
      have qB3 := qB2.alloc qB2.size (Obj.cells #[Value.int IntKind.i64 p1, Value.int IntKind.i64 p2] 30)
      have hs3 : (w2.alloc (Obj.cells #[Value.int IntKind.i64 p1, Value.int IntKind.i64 p2] 30)).heap.size = w2.heap.size + 1 := by simp
      have la := blk_lt a2
      have c0 := blk_cell a3 0
      have c1 := blk_cell a3 1
      clear a0 hsa qB h2 a2
      go_wp2_with fail
      refine (to_any _ _ _).mono ?_
      rintro e w3 ⟨rfl, h3⟩
      have x4 := (h3.block w2.heap.size (by omega)).trans x3
      have a4 := (h3.block w.heap.size (by omega)).trans a3
      have qB4 := qB3.trans (h3.mono (by have := qB2.size; omega))
      have ls := h3.size
      clear h3 x3 a3 c0 c1 qB3
      go_wp2_with fail
      refine (ac.out _).mono ?_
      rintro e w4 ⟨rfl, h4⟩
      have x5 := (h4.block w2.heap.size (by omega)).trans x4
      have a5 := (h4.block w.heap.size (by omega)).trans a4
      have qB5 := qB4.trans (h4.mono qB4.size)
      have c0 := blk_cell a5 0
      have c1 := blk_cell a5 1
      have ls2 := h4.size
      clear h4 x4 a4 qB4
      go_wp2_with fail
      refine (rc.out _).mono ?_
      rintro e w5 ⟨rfl, h5⟩
      have x6 := (h5.block w2.heap.size (by omega)).trans x5
      have qB6 := qB5.trans (h5.mono qB5.size)
      have ls3 := h5.size
      clear h5 x5 a5 c0 c1 qB5
      go_wp2_with fail
      refine (known_any _ (hT.below qB6)).mono ?_
      rintro e w6 ⟨rfl, h6⟩
      have x7 := (h6.block w2.heap.size (by omega)).trans x6
      have qB7 := qB6.trans (h6.mono qB6.size)
      have ls4 := h6.size
      have c0 := blk_cell x7 0
      have c1 := blk_cell x7 1
      clear h6 x6 qB6
      go_wp2_with fail
      refine (bc.out _).mono ?_
      rintro e w7 ⟨rfl, h7⟩
      have x8 := (h7.block w2.heap.size (by omega)).trans x7
      have qB8 := qB7.trans (h7.mono qB7.size)
      have ls5 := h7.size
      have c0 := blk_cell x8 0
      have c1 := blk_cell x8 1
      clear h7 x7 qB7
      have oc2 := hide tof_any
      go_wp2_with fail
      refine (oc2.out _ _ _).mono ?_
      rintro e w8 ⟨rfl, h8⟩
      have qB9 := qB8.trans (h8.mono qB8.size)
      clear h8
      go_wp2_with fail
      refine (ro.out _).mono ?_
      rintro e w9 ⟨rfl, h9⟩
      have qB10 := qB9.trans (h9.mono qB9.size)
      clear h9
      go_wp2_with fail
      go_ret
      exact ⟨rfl, qB10⟩
  · have oc := hide (fun w => of_bad S at_ (by omega) w)
    by_cases h0 : at_ < 0
    · have d0 : decide (at_ < 0) = true := by simp [h0]
      clear hin
      cases ok
      · have hn0 := hn rfl
        subst hn0
        clear hn
        go_enter Tryd.func5, Tryd.ntmps5
        go_wp2_with fail
        refine (fw.out _).mono ?_
        rintro e w1 ⟨rfl, rfl⟩
        have a0 := blk_new w (Obj.cells #[Value.int IntKind.i64 m1, Value.int IntKind.i64 m2] 23)
        have hsa : (w.alloc (Obj.cells #[Value.int IntKind.i64 m1, Value.int IntKind.i64 m2] 23)).heap.size = w.heap.size + 1 := by simp
        have qB : Below w.heap.size w (w.alloc (Obj.cells #[Value.int IntKind.i64 m1, Value.int IntKind.i64 m2] 23)) := (Below.refl _ w).alloc (Nat.le_refl _) _
        go_wp2_with fail
        refine (oc.out _).mono ?_
        rintro e w2 ⟨rfl, h2⟩
        have a2 := (h2.block w.heap.size (by omega)).trans a0
        have qB2 := qB.trans (h2.mono (by omega))
        have a3 := blk_alloc (o' := Obj.cells #[Value.int IntKind.i64 0, Value.int IntKind.i64 0] 30) a2
        have x3 := blk_new w2 (Obj.cells #[Value.int IntKind.i64 0, Value.int IntKind.i64 0] 30)
        have qB3 := qB2.alloc qB2.size (Obj.cells #[Value.int IntKind.i64 0, Value.int IntKind.i64 0] 30)
        have hs3 : (w2.alloc (Obj.cells #[Value.int IntKind.i64 0, Value.int IntKind.i64 0] 30)).heap.size = w2.heap.size + 1 := by simp
        have la := blk_lt a2
        have c0 := blk_cell a3 0
        have c1 := blk_cell a3 1
        clear a0 hsa qB h2 a2
        go_wp2_with fail
        refine (to_any _ _ _).mono ?_
        rintro e w3 ⟨rfl, h3⟩
        have x4 := (h3.block w2.heap.size (by omega)).trans x3
        have a4 := (h3.block w.heap.size (by omega)).trans a3
        have qB4 := qB3.trans (h3.mono (by have := qB2.size; omega))
        have ls := h3.size
        clear h3 x3 a3 c0 c1 qB3
        go_wp2_with fail
        refine (ac.out _).mono ?_
        rintro e w4 ⟨rfl, h4⟩
        have x5 := (h4.block w2.heap.size (by omega)).trans x4
        have a5 := (h4.block w.heap.size (by omega)).trans a4
        have qB5 := qB4.trans (h4.mono qB4.size)
        have c0 := blk_cell a5 0
        have c1 := blk_cell a5 1
        have ls2 := h4.size
        clear h4 x4 a4 qB4
        go_wp2_with fail
        refine (rc.out _).mono ?_
        rintro e w5 ⟨rfl, h5⟩
        have x6 := (h5.block w2.heap.size (by omega)).trans x5
        have qB6 := qB5.trans (h5.mono qB5.size)
        have ls3 := h5.size
        clear h5 x5 a5 c0 c1 qB5
        go_wp2_with fail
        refine (known_any _ (hT.below qB6)).mono ?_
        rintro e w6 ⟨rfl, h6⟩
        have x7 := (h6.block w2.heap.size (by omega)).trans x6
        have qB7 := qB6.trans (h6.mono qB6.size)
        have ls4 := h6.size
        have c0 := blk_cell x7 0
        have c1 := blk_cell x7 1
        clear h6 x6 qB6
        go_wp2_with fail
        go_ret
        exact ⟨rfl, qB7⟩
      · clear hn
        go_enter Tryd.func5, Tryd.ntmps5
        go_wp2_with fail
        refine (fw.out _).mono ?_
        rintro e w1 ⟨rfl, rfl⟩
        have a0 := blk_new w (Obj.cells #[Value.int IntKind.i64 m1, Value.int IntKind.i64 m2] 23)
        have hsa : (w.alloc (Obj.cells #[Value.int IntKind.i64 m1, Value.int IntKind.i64 m2] 23)).heap.size = w.heap.size + 1 := by simp
        have qB : Below w.heap.size w (w.alloc (Obj.cells #[Value.int IntKind.i64 m1, Value.int IntKind.i64 m2] 23)) := (Below.refl _ w).alloc (Nat.le_refl _) _
        go_wp2_with fail
        refine (oc.out _).mono ?_
        rintro e w2 ⟨rfl, h2⟩
        have a2 := (h2.block w.heap.size (by omega)).trans a0
        have qB2 := qB.trans (h2.mono (by omega))
        have a3 := blk_alloc (o' := Obj.cells #[Value.int IntKind.i64 0, Value.int IntKind.i64 0] 30) a2
        have x3 := blk_new w2 (Obj.cells #[Value.int IntKind.i64 0, Value.int IntKind.i64 0] 30)
        have qB3 := qB2.alloc qB2.size (Obj.cells #[Value.int IntKind.i64 0, Value.int IntKind.i64 0] 30)
        have hs3 : (w2.alloc (Obj.cells #[Value.int IntKind.i64 0, Value.int IntKind.i64 0] 30)).heap.size = w2.heap.size + 1 := by simp
        have la := blk_lt a2
        have c0 := blk_cell a3 0
        have c1 := blk_cell a3 1
        clear a0 hsa qB h2 a2
        go_wp2_with fail
        refine (to_any _ _ _).mono ?_
        rintro e w3 ⟨rfl, h3⟩
        have x4 := (h3.block w2.heap.size (by omega)).trans x3
        have a4 := (h3.block w.heap.size (by omega)).trans a3
        have qB4 := qB3.trans (h3.mono (by have := qB2.size; omega))
        have ls := h3.size
        clear h3 x3 a3 c0 c1 qB3
        go_wp2_with fail
        refine (ac.out _).mono ?_
        rintro e w4 ⟨rfl, h4⟩
        have x5 := (h4.block w2.heap.size (by omega)).trans x4
        have a5 := (h4.block w.heap.size (by omega)).trans a4
        have qB5 := qB4.trans (h4.mono qB4.size)
        have c0 := blk_cell a5 0
        have c1 := blk_cell a5 1
        have ls2 := h4.size
        clear h4 x4 a4 qB4
        go_wp2_with fail
        refine (rc.out _).mono ?_
        rintro e w5 ⟨rfl, h5⟩
        have x6 := (h5.block w2.heap.size (by omega)).trans x5
        have qB6 := qB5.trans (h5.mono qB5.size)
        have ls3 := h5.size
        clear h5 x5 a5 c0 c1 qB5
        go_wp2_with fail
        refine (known_any _ (hT.below qB6)).mono ?_
        rintro e w6 ⟨rfl, h6⟩
        have x7 := (h6.block w2.heap.size (by omega)).trans x6
        have qB7 := qB6.trans (h6.mono qB6.size)
        have ls4 := h6.size
        have c0 := blk_cell x7 0
        have c1 := blk_cell x7 1
        clear h6 x6 qB6
        go_wp2_with fail
        go_ret
        exact ⟨rfl, qB7⟩
    · have h1 : (S.size : Int) < at_ := by omega
      have d0 : decide (at_ < 0) = false := by simp; omega
      have d1 : decide ((S.size : Int) < at_) = true := by simp [h1]
      clear hin
      cases ok
      · have hn0 := hn rfl
        subst hn0
        clear hn
        go_enter Tryd.func5, Tryd.ntmps5
        go_wp2_with fail
        refine (fw.out _).mono ?_
        rintro e w1 ⟨rfl, rfl⟩
        have a0 := blk_new w (Obj.cells #[Value.int IntKind.i64 m1, Value.int IntKind.i64 m2] 23)
        have hsa : (w.alloc (Obj.cells #[Value.int IntKind.i64 m1, Value.int IntKind.i64 m2] 23)).heap.size = w.heap.size + 1 := by simp
        have qB : Below w.heap.size w (w.alloc (Obj.cells #[Value.int IntKind.i64 m1, Value.int IntKind.i64 m2] 23)) := (Below.refl _ w).alloc (Nat.le_refl _) _
        go_wp2_with fail
        refine (oc.out _).mono ?_
        rintro e w2 ⟨rfl, h2⟩
        have a2 := (h2.block w.heap.size (by omega)).trans a0
        have qB2 := qB.trans (h2.mono (by omega))
        have a3 := blk_alloc (o' := Obj.cells #[Value.int IntKind.i64 0, Value.int IntKind.i64 0] 30) a2
        have x3 := blk_new w2 (Obj.cells #[Value.int IntKind.i64 0, Value.int IntKind.i64 0] 30)
        have qB3 := qB2.alloc qB2.size (Obj.cells #[Value.int IntKind.i64 0, Value.int IntKind.i64 0] 30)
        have hs3 : (w2.alloc (Obj.cells #[Value.int IntKind.i64 0, Value.int IntKind.i64 0] 30)).heap.size = w2.heap.size + 1 := by simp
        have la := blk_lt a2
        have c0 := blk_cell a3 0
        have c1 := blk_cell a3 1
        clear a0 hsa qB h2 a2
        go_wp2_with fail
        refine (to_any _ _ _).mono ?_
        rintro e w3 ⟨rfl, h3⟩
        have x4 := (h3.block w2.heap.size (by omega)).trans x3
        have a4 := (h3.block w.heap.size (by omega)).trans a3
        have qB4 := qB3.trans (h3.mono (by have := qB2.size; omega))
        have ls := h3.size
        clear h3 x3 a3 c0 c1 qB3
        go_wp2_with fail
        refine (ac.out _).mono ?_
        rintro e w4 ⟨rfl, h4⟩
        have x5 := (h4.block w2.heap.size (by omega)).trans x4
        have a5 := (h4.block w.heap.size (by omega)).trans a4
        have qB5 := qB4.trans (h4.mono qB4.size)
        have c0 := blk_cell a5 0
        have c1 := blk_cell a5 1
        have ls2 := h4.size
        clear h4 x4 a4 qB4
        go_wp2_with fail
        refine (rc.out _).mono ?_
        rintro e w5 ⟨rfl, h5⟩
        have x6 := (h5.block w2.heap.size (by omega)).trans x5
        have qB6 := qB5.trans (h5.mono qB5.size)
        have ls3 := h5.size
        clear h5 x5 a5 c0 c1 qB5
        go_wp2_with fail
        refine (known_any _ (hT.below qB6)).mono ?_
        rintro e w6 ⟨rfl, h6⟩
        have x7 := (h6.block w2.heap.size (by omega)).trans x6
        have qB7 := qB6.trans (h6.mono qB6.size)
        have ls4 := h6.size
        have c0 := blk_cell x7 0
        have c1 := blk_cell x7 1
        clear h6 x6 qB6
        go_wp2_with fail
        go_ret
        exact ⟨rfl, qB7⟩
      · clear hn
        go_enter Tryd.func5, Tryd.ntmps5
        go_wp2_with fail
        refine (fw.out _).mono ?_
        rintro e w1 ⟨rfl, rfl⟩
        have a0 := blk_new w (Obj.cells #[Value.int IntKind.i64 m1, Value.int IntKind.i64 m2] 23)
        have hsa : (w.alloc (Obj.cells #[Value.int IntKind.i64 m1, Value.int IntKind.i64 m2] 23)).heap.size = w.heap.size + 1 := by simp
        have qB : Below w.heap.size w (w.alloc (Obj.cells #[Value.int IntKind.i64 m1, Value.int IntKind.i64 m2] 23)) := (Below.refl _ w).alloc (Nat.le_refl _) _
        go_wp2_with fail
        refine (oc.out _).mono ?_
        rintro e w2 ⟨rfl, h2⟩
        have a2 := (h2.block w.heap.size (by omega)).trans a0
        have qB2 := qB.trans (h2.mono (by omega))
        have a3 := blk_alloc (o' := Obj.cells #[Value.int IntKind.i64 0, Value.int IntKind.i64 0] 30) a2
        have x3 := blk_new w2 (Obj.cells #[Value.int IntKind.i64 0, Value.int IntKind.i64 0] 30)
        have qB3 := qB2.alloc qB2.size (Obj.cells #[Value.int IntKind.i64 0, Value.int IntKind.i64 0] 30)
        have hs3 : (w2.alloc (Obj.cells #[Value.int IntKind.i64 0, Value.int IntKind.i64 0] 30)).heap.size = w2.heap.size + 1 := by simp
        have la := blk_lt a2
        have c0 := blk_cell a3 0
        have c1 := blk_cell a3 1
        clear a0 hsa qB h2 a2
        go_wp2_with fail
        refine (to_any _ _ _).mono ?_
        rintro e w3 ⟨rfl, h3⟩
        have x4 := (h3.block w2.heap.size (by omega)).trans x3
        have a4 := (h3.block w.heap.size (by omega)).trans a3
        have qB4 := qB3.trans (h3.mono (by have := qB2.size; omega))
        have ls := h3.size
        clear h3 x3 a3 c0 c1 qB3
        go_wp2_with fail
        refine (ac.out _).mono ?_
        rintro e w4 ⟨rfl, h4⟩
        have x5 := (h4.block w2.heap.size (by omega)).trans x4
        have a5 := (h4.block w.heap.size (by omega)).trans a4
        have qB5 := qB4.trans (h4.mono qB4.size)
        have c0 := blk_cell a5 0
        have c1 := blk_cell a5 1
        have ls2 := h4.size
        clear h4 x4 a4 qB4
        go_wp2_with fail
        refine (rc.out _).mono ?_
        rintro e w5 ⟨rfl, h5⟩
        have x6 := (h5.block w2.heap.size (by omega)).trans x5
        have qB6 := qB5.trans (h5.mono qB5.size)
        have ls3 := h5.size
        clear h5 x5 a5 c0 c1 qB5
        go_wp2_with fail
        refine (known_any _ (hT.below qB6)).mono ?_
        rintro e w6 ⟨rfl, h6⟩
        have x7 := (h6.block w2.heap.size (by omega)).trans x6
        have qB7 := qB6.trans (h6.mono qB6.size)
        have ls4 := h6.size
        have c0 := blk_cell x7 0
        have c1 := blk_cell x7 1
        clear h6 x6 qB6
        go_wp2_with fail
        go_ret
        exact ⟨rfl, qB7⟩
end Go.Proofs.YtcabkkfehdcagaaDoor
