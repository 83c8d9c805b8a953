/- place's lines: the iterator over a text's lines. -/
import Derived.RangeFuncNested
import Derived.RangeFuncBound
import Derived.RangeFuncCalls
import Derived.RangeFuncLeaves
import Derived.RangeFuncBox
import Derived.Shelf.Abstract
import Derived.OwnWalkIn
import Derived.TacticsInMore
import Derived.LoopNIn
import Derived.LoopIn
import Derived.Test.YtboeeaekhijboaaFirst
import Derived.Test.YtboeeaekhijboaaMark
namespace Go.Proofs.Ytboeeaekhijboaa
open Go.RowKit Go.Shelf
attribute [local go_sem] Oper.semAt_some

/-- a line: how many bytes stand ahead of it, and its text -/
abbrev Ln := { x : Nat × ByteArray // x.1 + x.2.size ≤ 1000000 }
def encLn (x : Ln) : Array Value := #[.int .i64 (x.1.1 : Int), .string x.1.2]

/-- what a round keeps: the blocks below n₀, and the box of the text -/
def Keeps (Bs n₀ : Nat) (A B : World) : Prop := Below n₀ A B ∧ ∀ v, A.cell? ⟨Bs, 0, none⟩ = some v → B.cell? ⟨Bs, 0, none⟩ = some v

theorem keeps_t {Bs n₀ : Nat} {A B C : World} (h : Keeps Bs n₀ A B) (k : Keeps Bs n₀ B C) : Keeps Bs n₀ A C := ⟨h.1.trans k.1, fun v hv => k.2 v (h.2 v hv)⟩
theorem keeps_b {Bs n₀ : Nat} {w : World} (hw : n₀ ≤ w.heap.size) (W : World) (l : Nat) (o o' : Obj) (hl : w.heap.size ≤ l) (ho : W.heap[l]? = some o) (hc : o.isCells = false) (hk : o.isWalk = false) : Keeps Bs n₀ W (W.putObj l o') := by
  refine ⟨belowK_b hw W l o o' hl ho hc hk, fun v hv => ?_⟩
  exact cell_kept hv (grownBy_putObj' _ l o') (fun r e => by cases e; exact ⟨_, ho, hc⟩)

theorem lines1_in (l Bs n₀ : Nat) (s : ByteArray) (hs : s.size ≤ 1000000) (J Jx : List Ln → World → Prop)
    (hY : ∀ pre x W, J pre W → pre.length < s.size + 1 → YieldAt Fence.wide 2 Try.prog l (encLn x) W fun e W' =>
      (e = .returned (.bool true) ∧ J (pre ++ [x]) W' ∧ Keeps Bs n₀ W W') ∨ (e = .returned (.bool false) ∧ Jx (pre ++ [x]) W'))
    (W : World) (hBs : W.cell? ⟨Bs, 0, none⟩ = some (.string s)) (h0 : J [] W) :
    CallsIn Fence.wide 3 Try.prog 103 #[.func (.yield l) #[] #[], .pointer (some ⟨Bs, 0, none⟩)] W fun e W' => (∃ v, e = .returned v) ∧
      ((∃ ys, ys.map (·.1) = linesOf s (s.size + 1) 0 ∧ J ys W') ∨ (∃ pre, pre.map (·.1) <+: linesOf s (s.size + 1) 0 ∧ Jx pre W')) := by
  have hib := hide (fun k W => flip (Try.strings_IndexByte (s.extract k s.size) 10 W))
  refine callsIn_of_wp Try.func103 rfl trivial ?_ rfl
  simp only [Try.ntmps103, List.size_toArray, List.length_cons, List.length_nil, Nat.reduceAdd, Nat.reduceSub, Array.replicate_succ, Array.replicate_zero, List.push_toArray, List.append_toArray, List.nil_append, List.cons_append]
  gi_wp2
  gi_loopw [3] (fun i wr => ∃ (k f : Nat) (pre : List Ln), k ≤ s.size ∧ s.size < k + f ∧ pre.length ≤ k ∧ i = .int .i64 k ∧ Hid (pre.map (·.1) ++ linesOf s f k = linesOf s (s.size + 1) 0) ∧ J pre wr ∧ wr.cell? ⟨Bs, 0, none⟩ = some (.string s))
    (fun i _ => s.size + 1 - (intOf i).toNat)
  case atStart => exact ⟨0, s.size + 1, [], Nat.zero_le _, by omega, Nat.le_refl _, rfl, by simp [Hid], h0, hBs⟩
  case round =>
    obtain ⟨k, f, pre, hk, hf, hpl, rfl, hpre, hJ, hcell⟩ := hrel
    obtain ⟨f, rfl⟩ : ∃ g, f = g + 1 := ⟨f - 1, by omega⟩
    have hq := hide (hib.out k wr)
    have hext : (s.extract k s.size).data.toList = s.data.toList.drop k := Lib.extract_to_end s k
    have h10 : (10 : Int).toNat.toUInt8 = 10 := rfl
    rw [hext, h10] at hq
    clear h10
    by_cases hneg : Lib.indexByte (s.data.toList.drop k) 10 < 0
    · have hx : k + (s.extract k s.size).size ≤ 1000000 := by
        have : (s.extract k s.size).size = s.size - k := by simp
        omega
      obtain ⟨fn, tmps, assign, body, hy, hR⟩ := hY pre ⟨(k, s.extract k s.size), hx⟩ wr hJ (by omega)
      dsimp only [encLn] at hy
      have hfin : pre.map (·.1) ++ [(k, s.extract k s.size)] = linesOf s (s.size + 1) 0 := by
        rw [← hpre.out]; simp only [linesOf]; rw [if_pos hneg]
      have Hfin := hide hfin
      clear hfin hpre hext
      generalize Lib.indexByte (s.data.toList.drop k) 10 = q at *
      gi_wp2_with (refine ⟨trivial, ?_⟩; gi_at_call 97; refine (callsIn_wide.2 hq.out).mono ?_; rintro e w' ⟨rfl, rfl⟩)
      refine hR.mono ?_
      rintro e W3 (⟨rfl, hJ3, hk3⟩ | ⟨rfl, hJx3⟩)
      · gi_wp2
        refine bodyPost_ret (results_none rfl _ _ _) rfl ?_
        exact ⟨⟨_, rfl⟩, .inl ⟨_, by rw [List.map_append]; exact Hfin.out, hJ3⟩⟩
      · gi_wp2
        refine bodyPost_ret (results_none rfl _ _ _) rfl ?_
        exact ⟨⟨_, rfl⟩, .inr ⟨_, by rw [List.map_append]; exact ⟨[], by rw [List.append_nil]; exact Hfin.out⟩, hJx3⟩⟩
    · obtain ⟨n, hn⟩ := Int.eq_ofNat_of_zero_le (show 0 ≤ Lib.indexByte (s.data.toList.drop k) 10 by omega)
      obtain ⟨i1, _⟩ := skip_remark _ n hn
      have hlen : n + k < s.size := by simp at i1; omega
      have hx : k + (s.extract k (k + n)).size ≤ 1000000 := by
        have : (s.extract k (k + n)).size = n := by simp; omega
        omega
      obtain ⟨fn, tmps, assign, body, hy, hR⟩ := hY pre ⟨(k, s.extract k (k + n)), hx⟩ wr hJ (by omega)
      dsimp only [encLn] at hy
      have hstep : linesOf s (f + 1) k = (k, s.extract k (k + n)) :: linesOf s f (k + (n + 1)) := by
        simp only [linesOf]; rw [if_neg hneg, hn]; rfl
      have hpre2 := hpre.out
      rw [hstep] at hpre2
      have Hfin := hide hpre2
      rw [hn] at hq hneg
      clear hpre hext hpre2 hstep hn i1
      gi_wp2_with (refine ⟨trivial, ?_⟩; gi_at_call 97; refine (callsIn_wide.2 hq.out).mono ?_; rintro e w' ⟨rfl, rfl⟩)
      refine hR.mono ?_
      rintro e W3 (⟨rfl, hJ3, hk3⟩ | ⟨rfl, hJx3⟩)
      · have hc3 := hk3.2 _ hcell
        gi_wp2
        go_roundw
        case rel => exact ⟨k + (n + 1), f, pre ++ [⟨(k, s.extract k (k + n)), hx⟩], by omega, by omega, by simp; omega, by go_num, by
          have := Hfin.out
          unfold Hid
          rw [List.map_append, List.append_assoc]
          exact this, hJ3, hc3⟩
        case measure => simp [intOf]; omega
      · gi_wp2
        refine bodyPost_ret (results_none rfl _ _ _) rfl ?_
        exact ⟨⟨_, rfl⟩, .inr ⟨_, by rw [List.map_append]; exact ⟨linesOf s f (k + (n + 1)), by have := Hfin.out; rw [List.append_assoc]; exact this⟩, hJx3⟩⟩

theorem lines_in (s : ByteArray) (w : World) :
    CallsIn Fence.wide 3 Try.prog 96 #[.string s] w fun e w' => e = .returned (.func (.func 103) #[] #[.pointer (some ⟨w.heap.size, 0, none⟩)]) ∧ w' = w.alloc (.cells #[.string s] 9) := by
  refine callsIn_of_wp Try.func96 rfl trivial ?_ rfl
  simp only [Try.ntmps96, List.size_toArray, List.length_cons, List.length_nil, Nat.reduceAdd, Nat.reduceSub, Array.replicate_succ, Array.replicate_zero, List.push_toArray, List.append_toArray, List.nil_append, List.cons_append]
  gi_wp2
  go_ret
  exact ⟨rfl, rfl⟩

theorem lines_stops (s : ByteArray) (hs : s.size ≤ 1000000) (Bs n₀ : Nat) (w : World) (hBs : Bs < w.heap.size) (hc : w.cell? ⟨Bs, 0, none⟩ = some (.string s)) :
    SeqStopsK Fence.wide 3 Try.prog 103 #[.pointer (some ⟨Bs, 0, none⟩)] encLn (Keeps Bs n₀) (fun ys => ys.map (·.1) = linesOf s (s.size + 1) 0) (fun pre => pre.map (·.1) <+: linesOf s (s.size + 1) 0) (s.size + 1) w :=
  fun l J Jx W hW _ _ hY h0 => lines1_in l Bs n₀ s hs J Jx hY W ((hW.cell (p := ⟨Bs, 0, none⟩) hBs).trans hc) h0

theorem blk_cell {w : World} {b : Nat} {c : Array Value} {t : TypeId} (h : w.heap[b]? = some (.cells c t)) (i : Nat) : w.cell? ⟨b, i, none⟩ = c[i]? := by
  simp [World.cell?, h]
theorem blk_free {w : World} {b : Nat} {c : Array Value} {t : TypeId} (h : w.heap[b]? = some (.cells c t)) (i : Nat) : w.frozen? ⟨b, i, none⟩ = false := by
  simp [World.frozen?, h]
theorem blk_lt {w : World} {b : Nat} {c : Array Value} {t : TypeId} (h : w.heap[b]? = some (.cells c t)) : b < w.heap.size := (Array.getElem?_eq_some_iff.1 h).1
theorem blk_set {w : World} {b : Nat} {c : Array Value} {t : TypeId} (h : w.heap[b]? = some (.cells c t)) (i : Nat) (v : Value) :
    (w.setCell ⟨b, i, none⟩ v).heap[b]? = some (.cells (c.setIfInBounds i v) t) := by
  simp [World.setCell, Array.getElem?_modify, h]
theorem blk_other {w : World} {b b' : Nat} {o : Obj} (h : w.heap[b]? = some o) (hne : b ≠ b') (i : Nat) (v : Value) : (w.setCell ⟨b', i, none⟩ v).heap[b]? = some o := by
  rw [Below.heap_setCell _ _ _ _ hne]; exact h
theorem blk_alloc {w : World} {b : Nat} {o o' : Obj} (h : w.heap[b]? = some o) : (w.alloc o').heap[b]? = some o := by
  rw [Below.heap_alloc _ _ _ (Array.getElem?_eq_some_iff.1 h).1]; exact h
theorem blk_new (w : World) (o : Obj) : (w.alloc o).heap[w.heap.size]? = some o := heap_alloc_new w o
theorem blk_kept {A B : World} {row : Option Nat} {b : Nat} {c : Array Value} {t : TypeId} (h : A.heap[b]? = some (.cells c t)) (hg : A.grownBy B row)
    (hr : ∀ r, row = some r → ∃ o, A.heap[r]? = some o ∧ o.isCells = false) : B.heap[b]? = some (.cells c t) := by
  rw [hg.block b (blk_lt h) (fun e => by
    obtain ⟨o, ho, hc⟩ := hr b e.symm
    rw [h] at ho
    cases ho
    cases hc)]
  exact h

/-- what lies in the blocks of place.Of's own between two rounds -/
def OfAt (B k : Nat) (n x y c : Int) (W : World) : Prop :=
  W.heap[B]? = some (.cells #[.int .i64 k] 3) ∧ W.heap[B + 1]? = some (.cells #[.int .i64 x, .int .i64 y] 25) ∧ W.heap[B + 1 + 1]? = some (.cells #[.int .i64 c] 23) ∧ W.heap[B + 1 + 1 + 1]? = some (.cells #[.int .i64 n] 3)

theorem OfAt.kept {B k : Nat} {n x y c : Int} {A C : World} {row : Option Nat} (h : OfAt B k n x y c A) (hg : A.grownBy C row)
    (hr : ∀ r, row = some r → ∃ o, A.heap[r]? = some o ∧ o.isCells = false) : OfAt B k n x y c C :=
  ⟨blk_kept h.1 hg hr, blk_kept h.2.1 hg hr, blk_kept h.2.2.1 hg hr, blk_kept h.2.2.2 hg hr⟩

/-- all these lines end ahead of a place -/
def Ahead (k : Nat) (pre : List Ln) : Prop := ∀ p ∈ pre, p.1.1 + p.1.2.size < k

set_option maxHeartbeats 1000000 in
theorem of_in (s : ByteArray) (hs : s.size ≤ 1000000) (k : Nat) (hk : k ≤ s.size) (w : World) :
    CallsIn Fence.wide 4 Try.prog 84 #[.string s, .int .i64 k] w fun e W' =>
      (∃ (ini : List Ln) (last : Ln), (ini ++ [last]).map (·.1) <+: linesOf s (s.size + 1) 0 ∧ (∀ p ∈ ini, p.1.1 + p.1.2.size < k) ∧ k ≤ last.1.1 + last.1.2.size ∧
        e = .returned (.tuple #[.agg #[.int .i64 (ini.length + 1), .int .i64 ((k : Int) - last.1.1 + 1)], .int .i64 0])) ∧ Below w.heap.size w W' := by
  have d1 : decide ((k : Int) < 0) = false := by simp
  have d2 : decide (s.size < k) = false := by simp; omega
  refine callsIn_of_wp_marks Try.func84 rfl trivial ?_ rfl
  simp only [Try.ntmps84, List.size_toArray, List.length_cons, List.length_nil, Nat.reduceAdd, Nat.reduceSub, Array.replicate_succ, Array.replicate_zero, List.push_toArray, List.append_toArray, List.nil_append, List.cons_append]
  gi_wp2_with (refine ⟨trivial, ?_⟩; gi_at_call 96; refine (lines_in _ _).mono ?_; rintro e w' ⟨rfl, rfl⟩)
  obtain ⟨W0, hW0⟩ : ∃ W0, (((((w.alloc (Obj.cells #[Value.int IntKind.i64 ↑k] 3)).alloc (Obj.cells #[Value.int IntKind.i64 0, Value.int IntKind.i64 0] 25)).alloc (Obj.cells #[Value.int IntKind.i64 0] 23)).alloc (Obj.cells #[Value.int IntKind.i64 0] 3)).alloc (Obj.cells #[Value.string s] 9)) = W0 := ⟨_, rfl⟩
  rw [hW0]
  have hsz : W0.heap.size = w.heap.size + 5 := by rw [← hW0]; simp
  have hB0 : Below w.heap.size w W0 := by
    rw [← hW0]
    exact (((((Below.refl _ w).alloc (Nat.le_refl _) _).alloc (by simp) _).alloc (by simp only [World.size_alloc]; omega) _).alloc (by simp only [World.size_alloc]; omega) _).alloc (by simp only [World.size_alloc]; omega) _
  have hAt : OfAt w.heap.size k 0 0 0 0 W0 := by
    rw [← hW0]
    have e1 := blk_new w (Obj.cells #[Value.int IntKind.i64 ↑k] 3)
    have e2 := blk_new (w.alloc (Obj.cells #[Value.int IntKind.i64 ↑k] 3)) (Obj.cells #[Value.int IntKind.i64 0, Value.int IntKind.i64 0] 25)
    have e3 := blk_new ((w.alloc (Obj.cells #[Value.int IntKind.i64 ↑k] 3)).alloc (Obj.cells #[Value.int IntKind.i64 0, Value.int IntKind.i64 0] 25)) (Obj.cells #[Value.int IntKind.i64 0] 23)
    have e4 := blk_new (((w.alloc (Obj.cells #[Value.int IntKind.i64 ↑k] 3)).alloc (Obj.cells #[Value.int IntKind.i64 0, Value.int IntKind.i64 0] 25)).alloc (Obj.cells #[Value.int IntKind.i64 0] 23)) (Obj.cells #[Value.int IntKind.i64 0] 3)
    simp only [World.size_alloc] at e2 e3 e4
    exact ⟨blk_alloc (blk_alloc (blk_alloc (blk_alloc e1))), blk_alloc (blk_alloc (blk_alloc e2)), blk_alloc (blk_alloc e3), blk_alloc e4⟩
  have hS : W0.heap[w.heap.size + 1 + 1 + 1 + 1]? = some (.cells #[.string s] 9) := by
    rw [← hW0]
    have e5 := blk_new ((((w.alloc (Obj.cells #[Value.int IntKind.i64 ↑k] 3)).alloc (Obj.cells #[Value.int IntKind.i64 0, Value.int IntKind.i64 0] 25)).alloc (Obj.cells #[Value.int IntKind.i64 0] 23)).alloc (Obj.cells #[Value.int IntKind.i64 0] 3)) (Obj.cells #[Value.string s] 9)
    simp only [World.size_alloc] at e5
    exact e5
  clear hW0
  refine wpIn_rangeFunc_ownG rfl (by omega) (gf := 103) (lb := #[.pointer (some ⟨w.heap.size + 1 + 1 + 1 + 1, 0, none⟩)]) rfl trivial (enters_of Try.func103 (by kernel_rfl) rfl)
    (lines_stops s hs (w.heap.size + 1 + 1 + 1 + 1) w.heap.size W0 (by omega) (blk_cell hS 0)) keeps_t (keeps_b (by omega)) (Below.refl _ _) (fun _ => rfl)
    (fun pre W => (Ahead k pre ∧ OfAt w.heap.size k pre.length 0 0 0 W) ∧ Below w.heap.size w W)
    (fun c pre W => (c = .ret ∧ ∃ ini last, pre = ini ++ [last] ∧ Ahead k ini ∧ k ≤ last.1.1 + last.1.2.size ∧ OfAt w.heap.size k (ini.length + 1) (ini.length + 1) ((k : Int) - last.1.1 + 1) 0 W) ∧ Below w.heap.size w W)
    (OwnFrom.and (Own.from (fun s A B row hs hg hr => ⟨hs.1, hs.2.kept hg hr⟩) _) (ownFrom_below (Nat.le_refl _) (by omega)))
    (fun c => OwnFrom.and (Own.from (fun s A B row hs hg hr => by obtain ⟨hc, ini, last, e1, e2, e3, e4⟩ := hs; exact ⟨hc, ini, last, e1, e2, e3, e4.kept hg hr⟩) _) (ownFrom_below (Nat.le_refl _) (by omega)))
    ⟨⟨fun _ h => absurd h (by simp), hAt⟩, hB0⟩
    (fun x => { tmps := #[.string s, .int .i64 k, undef, .pointer (some ⟨w.heap.size, 0, none⟩), .pointer (some ⟨w.heap.size + 1, 0, none⟩), .pointer (some ⟨w.heap.size + 1 + 1, 0, none⟩), .pointer (some ⟨w.heap.size + 1 + 1 + 1, 0, none⟩), .int .i64 (x.1.1 : Int), .string x.1.2, .int .i64 k, .bool false, .bool false, .int .i64 k, .string s, .int .i64 s.size, .bool false, .bool false, undef, .string s, .func (.func 103) #[] #[.pointer (some ⟨w.heap.size + 1 + 1 + 1 + 1, 0, none⟩)], .int .i64 (x.1.1 : Int), .string x.1.2, undef, undef, undef, undef, undef, undef, undef, undef, undef, undef, undef, undef, undef, undef, undef], defers := [] }) ?assign ?body ?done ?stop
  case assign =>
    intro l x W K hK
    dsimp only [encLn]
    gi_wp2
    exact hK
  case body =>
    rintro l pre x W ⟨⟨hp, hat⟩, hB⟩ hlen
    obtain ⟨b0, b1, b2, b3⟩ := hat
    have hx := x.2
    have c0 := blk_cell b0 0
    have c10 := blk_cell b1 0
    have c11 := blk_cell b1 1
    have c2 := blk_cell b2 0
    have c3 := blk_cell b3 0
    have f10 := blk_free b1 0
    have f11 := blk_free b1 1
    have f2 := blk_free b2 0
    have f3 := blk_free b3 0
    have H0 := hide b0
    have H1 := hide b1
    have H2 := hide b2
    have H3 := hide b3
    have HB := hide hB
    clear b0 b1 b2 b3 hB
    by_cases ht : (k : Int) ≤ (x.1.1 : Int) + (x.1.2.size : Int)
    · gi_wp2
      have n1 : w.heap.size + 1 + 1 + 1 ≠ w.heap.size + 1 := by omega
      have n2 : w.heap.size + 1 + 1 + 1 ≠ w.heap.size + 1 + 1 := by omega
      have n3 : w.heap.size + 1 ≠ w.heap.size + 1 + 1 + 1 := by omega
      have n4 : w.heap.size + 1 ≠ w.heap.size + 1 + 1 := by omega
      have n5 : w.heap.size + 1 + 1 ≠ w.heap.size + 1 + 1 + 1 := by omega
      have n6 : w.heap.size + 1 + 1 ≠ w.heap.size + 1 := by omega
      have n7 : w.heap.size ≠ w.heap.size + 1 + 1 + 1 := by omega
      have n8 : w.heap.size ≠ w.heap.size + 1 + 1 := by omega
      have n9 : w.heap.size ≠ w.heap.size + 1 := by omega
      refine ⟨((((KeepsOthers.setCell _ _ _).trans (KeepsOthers.setCell _ _ _)).trans (KeepsOthers.setCell _ _ _)).trans (KeepsOthers.setCell _ _ _)).from _, ⟨rfl, pre, x, rfl, hp, by omega, ?_⟩, ?_⟩
      · refine ⟨blk_other (blk_other (blk_other (blk_other H0.out n7 _ _) n9 _ _) n9 _ _) n8 _ _, ?_, ?_, ?_⟩
        · exact blk_other (blk_set (blk_set (blk_other H1.out n3 _ _) 0 _) 1 _) n4 _ _
        · exact blk_set (blk_other (blk_other (blk_other H2.out n5 _ _) n6 _ _) n6 _ _) 0 _
        · exact blk_other (blk_other (blk_other (blk_set H3.out 0 _) n1 _ _) n1 _ _) n2 _ _
      · exact (((HB.out.setCell (p := ⟨w.heap.size + 1 + 1 + 1, 0, none⟩) (by show _ ≤ w.heap.size + 1 + 1 + 1; omega) _).setCell (p := ⟨w.heap.size + 1, 0, none⟩) (by show _ ≤ w.heap.size + 1; omega) _).setCell (p := ⟨w.heap.size + 1, 1, none⟩) (by show _ ≤ w.heap.size + 1; omega) _).setCell (p := ⟨w.heap.size + 1 + 1, 0, none⟩) (by show _ ≤ w.heap.size + 1 + 1; omega) _
    · gi_wp2
      have n3 : w.heap.size + 1 ≠ w.heap.size + 1 + 1 + 1 := by omega
      have n5 : w.heap.size + 1 + 1 ≠ w.heap.size + 1 + 1 + 1 := by omega
      have n7 : w.heap.size ≠ w.heap.size + 1 + 1 + 1 := by omega
      refine ⟨(KeepsOthers.setCell _ _ _).from _, ⟨(Below.refl _ _).setCell (p := ⟨w.heap.size + 1 + 1 + 1, 0, none⟩) (by show _ ≤ w.heap.size + 1 + 1 + 1; omega) _, fun v hv => ?_⟩, ⟨fun _ hp' => (List.mem_append.1 hp').elim (hp _) (fun e => by obtain rfl := List.mem_singleton.1 e; omega), ?_⟩, HB.out.setCell (p := ⟨w.heap.size + 1 + 1 + 1, 0, none⟩) (by show _ ≤ w.heap.size + 1 + 1 + 1; omega) _⟩
      · rw [World.cell?_setCell_other _ ⟨w.heap.size + 1 + 1 + 1, 0, none⟩ ⟨w.heap.size + 1 + 1 + 1 + 1, 0, none⟩ _ (by simp)]
        exact hv
      · refine ⟨blk_other H0.out n7 _ _, blk_other H1.out n3 _ _, blk_other H2.out n5 _ _, ?_⟩
        have := blk_set H3.out 0 (.int .i64 ((pre.length : Int) + 1))
        rw [List.length_append]
        exact this
  case done =>
    rintro D ys W hD hys ⟨⟨hp, _⟩, _⟩ _
    exfalso
    obtain ⟨p, hpm, hpe⟩ := lines_last s (s.size + 1) 0 (Nat.zero_le _) (by omega)
    rw [← hys] at hpm
    obtain ⟨y, hy, rfl⟩ := List.mem_map.1 hpm
    have := hp y hy
    omega
  case stop =>
    rintro D c pre W hD hpre ⟨⟨rfl, ini, last, e1, e2, e3, b0, b1, b2, b3⟩, hB⟩ hK
    gi_wp2
    refine ⟨by simp, .inl ⟨_, _, rfl, run_takeDeferred hK, ?_⟩⟩
    have k1 := blk_cell (blk_kept b1 (grownBy_putObj' _ D (.deferred none)) (fun r e => by cases e; exact ⟨_, hK, rfl⟩))
    have k2 := blk_cell (blk_kept b2 (grownBy_putObj' _ D (.deferred none)) (fun r e => by cases e; exact ⟨_, hK, rfl⟩)) 0
    have k10 := k1 0
    have k11 := k1 1
    subst e1
    refine ⟨.tuple #[.agg #[.int .i64 (ini.length + 1), .int .i64 ((k : Int) - last.1.1 + 1)], .int .i64 0], ?_, ⟨⟨ini, last, hpre, e2, e3, rfl⟩, hB.trans (belowK_b (w := w) (Nat.le_refl _) W D _ _ (by omega) hK rfl rfl)⟩⟩
    simp [results, Try.f84, go_sem, k10, k11, k2]

/-- place.Of at a place of a text that is not too long: the mark that the document gives -/
theorem of_any (s : ByteArray) (hs : s.size ≤ 1000000) (k : Nat) (hk : k ≤ s.size) (w : World) :
    Calls Try.prog 84 #[.string s, .int .i64 k] w fun e W' =>
      e = .returned (.tuple #[.agg #[.int .i64 (markOf (s.data.toList.take k)).1, .int .i64 (markOf (s.data.toList.take k)).2], .int .i64 0]) ∧ Below w.heap.size w W' := by
  refine (callsIn_wide.1 (of_in s hs k hk w)).mono ?_
  rintro e W' ⟨⟨ini, last, h1, h2, h3, rfl⟩, hB⟩
  refine ⟨?_, hB⟩
  rw [List.map_append] at h1
  obtain ⟨_, _, r⟩ := lines_mark s (s.size + 1) 0 1 (ini.map (·.1)) last.1 (Nat.zero_le _) (by omega) rfl h1 k (Nat.zero_le _)
    (fun p hp => by obtain ⟨y, hy, rfl⟩ := List.mem_map.1 hp; exact h2 y hy) h3
  rw [r]
  simp only [List.length_map]
  rw [show (1 : Int) + (ini.length : Int) = (ini.length : Int) + 1 by omega]
end Go.Proofs.Ytboeeaekhijboaa
