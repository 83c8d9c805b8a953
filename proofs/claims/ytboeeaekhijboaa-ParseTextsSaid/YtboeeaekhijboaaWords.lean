/- Words and values: lex.IsWord, lex.Value, the reference's Is and Value. -/
import Derived.Test.YtboeeaekhijboaaShort
import Derived.Test.YtboeeaekhijboaaPlain
import Derived.Test.YtboeeaekhijboaaToks
import Derived.Laws.IdiomStrings
namespace Go.Proofs.Ytboeeaekhijboaa
open Go.RowKit
set_option linter.unusedVariables false
set_option linter.unusedSimpArgs false

def valL : List UInt8 → Nat → Nat
 | [], n => n
 | c :: r, n => valL r (10 * n + (c.toNat - 48))

theorem bytesRow_cell (w : World) (s : ByteArray) (cap : Nat) (f : Nat × Nat) (k : Nat) (h : k < s.size) : (w.alloc (.cells (bytesRow s cap) 5 f)).cell? ⟨w.heap.size, k, none⟩ = some (.int .u8 (s[k].toNat : Int)) := by
 have h1 : (w.alloc (.cells (bytesRow s cap) 5 f)).heap[w.heap.size]? = some (.cells (bytesRow s cap) 5 f) := heap_alloc_new w _
 unfold World.cell?
 rw [h1]
 have h2 : k < (s.data.map (fun b => Value.int .u8 b.toNat)).size := by simpa using h
 simp [bytesRow, Array.getElem?_append, h]
 rfl

theorem runLen_all (p : UInt8 → Bool) (l : List UInt8) (h : runLen p l = l.length) : ∀ c ∈ l, p c = true := by
 induction l with
 | nil => simp
 | cons c r ih =>
   have hr := runLen_le p r
   simp only [runLen, List.length_cons] at h
   split at h
   ·
    rename_i hc
    intro x hx
    rcases List.mem_cons.1 hx with rfl | hx
    ·
     exact hc
    ·
     exact ih (by omega) x hx
   ·
    omega

set_option maxRecDepth 100000 in
set_option maxHeartbeats 4000000 in
theorem value_kind (kd : Int) (s : ByteArray) (k : Int) (hl : s.size ≤ 9223372036854775807) (w : World) (hk : kd ≠ 2) :
  Calls Try.prog 94 #[.agg #[.int .i64 kd, .string s, .int .i64 k]] w fun e w' => e = .returned (.tuple #[.int .i64 0, .int .i64 1]) ∧ Below w.heap.size w w' := by
 have k1 : (kd == 2) = false := by simp [hk]
 have k2 : (kd != 2) = true := by simp [hk]
 go_enter Try.func94, Try.ntmps94
 have k0 := blk_new w (.cells #[.int .i64 kd, .string s, .int .i64 k] 75)
 obtain ⟨W0, hW0⟩ : ∃ W0, W0 = w.alloc (.cells #[.int .i64 kd, .string s, .int .i64 k] 75) := ⟨_, rfl⟩
 have HB : Hid (Below w.heap.size w W0) := by rw [hW0]; exact (Below.refl _ w).alloc (Nat.le_refl _) _
 rw [← hW0] at k0
 have A0 := blk_cell k0 0
 have A1 := blk_cell k0 1
 have lA := blk_lt k0
 go_wp2_with fail
 rw [← hW0]
 clear k0 hW0
 refine wp_region_held_drew (S := (fun w' => w'.cell? ⟨w.heap.size, 0, none⟩ = some (.int .i64 kd) ∧ w'.cell? ⟨w.heap.size, 1, none⟩ = some (.string s))) (by kernel_rfl) (by go_keep) (fun hHeld => ?_)
 first
  | (refine tku 0 ?_)
  | (refine tkl 0 ?_ ?_ ?_
     rotate_left
     (intro w hSw
      (try dsimp only at hSw)
      (go_simp <;> with_reducible rfl)))
 try simp only [Act.put, puts]
 first
  | (refine tku 1 ?_)
  | (refine tkl 1 ?_ ?_ ?_
     rotate_left
     (intro w hSw
      (try dsimp only at hSw)
      (go_simp <;> with_reducible rfl)))
 try simp only [Act.put, puts]
 first
  | (refine tku 2 ?_)
  | (refine tkl 2 ?_ ?_ ?_
     rotate_left
     (intro w hSw
      (try dsimp only at hSw)
      (go_simp <;> with_reducible rfl)))
 try simp only [Act.put, puts]
 first
  | (refine tku 3 ?_)
  | (refine tkl 3 ?_ ?_ ?_
     rotate_left
     (intro w hSw
      (try dsimp only at hSw)
      (go_simp <;> with_reducible rfl)))
 try simp only [Act.put, puts]
 first
  | (refine tku 4 ?_)
  | (refine tkl 4 ?_ ?_ ?_
     rotate_left
     (intro w hSw
      (try dsimp only at hSw)
      (go_simp <;> with_reducible rfl)))
 try simp only [Act.put, puts]
 first
  | (refine tku 5 ?_)
  | (refine tkl 5 ?_ ?_ ?_
     rotate_left
     (intro w hSw
      (try dsimp only at hSw)
      (go_simp <;> with_reducible rfl)))
 try simp only [Act.put, puts]
 first
  | (refine tku 6 ?_)
  | (refine tkl 6 ?_ ?_ ?_
     rotate_left
     (intro w hSw
      (try dsimp only at hSw)
      (go_simp <;> with_reducible rfl)))
 try simp only [Act.put, puts]
 first
  | (refine tku 7 ?_)
  | (refine tkl 7 ?_ ?_ ?_
     rotate_left
     (intro w hSw
      (try dsimp only at hSw)
      (go_simp <;> with_reducible rfl)))
 try simp only [Act.put, puts]
 first
  | (refine tku 8 ?_)
  | (refine tkl 8 ?_ ?_ ?_
     rotate_left
     (intro w hSw
      (try dsimp only at hSw)
      (go_simp <;> with_reducible rfl)))
 try simp only [Act.put, puts]
 first
  | (refine tku 9 ?_)
  | (refine tkl 9 ?_ ?_ ?_
     rotate_left
     (intro w hSw
      (try dsimp only at hSw)
      (go_simp <;> with_reducible rfl)))
 try simp only [Act.put, puts]
 first
  | (refine tku 10 ?_)
  | (refine tkl 10 ?_ ?_ ?_
     rotate_left
     (intro w hSw
      (try dsimp only at hSw)
      (go_simp <;> with_reducible rfl)))
 try simp only [Act.put, puts]
 first
  | (refine tku 11 ?_)
  | (refine tkl 11 ?_ ?_ ?_
     rotate_left
     (intro w hSw
      (try dsimp only at hSw)
      (go_simp <;> with_reducible rfl)))
 try simp only [Act.put, puts]
 first
  | (refine tku 12 ?_)
  | (refine tkl 12 ?_ ?_ ?_
     rotate_left
     (intro w hSw
      (try dsimp only at hSw)
      (go_simp <;> with_reducible rfl)))
 try simp only [Act.put, puts]
 first
  | (refine tku 13 ?_)
  | (refine tkl 13 ?_ ?_ ?_
     rotate_left
     (intro w hSw
      (try dsimp only at hSw)
      (go_simp <;> with_reducible rfl)))
 try simp only [Act.put, puts]
 first
  | (refine tku 14 ?_)
  | (refine tkl 14 ?_ ?_ ?_
     rotate_left
     (intro w hSw
      (try dsimp only at hSw)
      (go_simp <;> with_reducible rfl)))
 try simp only [Act.put, puts]
 first
  | (refine tku 15 ?_)
  | (refine tkl 15 ?_ ?_ ?_
     rotate_left
     (intro w hSw
      (try dsimp only at hSw)
      (go_simp <;> with_reducible rfl)))
 try simp only [Act.put, puts]
 first
  | (refine tku 16 ?_)
  | (refine tkl 16 ?_ ?_ ?_
     rotate_left
     (intro w hSw
      (try dsimp only at hSw)
      (go_simp <;> with_reducible rfl)))
 try simp only [Act.put, puts]
 first
  | (refine tku 17 ?_)
  | (refine tkl 17 ?_ ?_ ?_
     rotate_left
     (intro w hSw
      (try dsimp only at hSw)
      (go_simp <;> with_reducible rfl)))
 try simp only [Act.put, puts]
 first
  | (refine tku 18 ?_)
  | (refine tkl 18 ?_ ?_ ?_
     rotate_left
     (intro w hSw
      (try dsimp only at hSw)
      (go_simp <;> with_reducible rfl)))
 try simp only [Act.put, puts]
 first
  | (refine tku 19 ?_)
  | (refine tkl 19 ?_ ?_ ?_
     rotate_left
     (intro w hSw
      (try dsimp only at hSw)
      (go_simp <;> with_reducible rfl)))
 try simp only [Act.put, puts]
 first
  | (refine tku 20 ?_)
  | (refine tkl 20 ?_ ?_ ?_
     rotate_left
     (intro w hSw
      (try dsimp only at hSw)
      (go_simp <;> with_reducible rfl)))
 try simp only [Act.put, puts]
 first
  | (refine tku 21 ?_)
  | (refine tkl 21 ?_ ?_ ?_
     rotate_left
     (intro w hSw
      (try dsimp only at hSw)
      (go_simp <;> with_reducible rfl)))
 try simp only [Act.put, puts]
 first
  | (refine tku 22 ?_)
  | (refine tkl 22 ?_ ?_ ?_
     rotate_left
     (intro w hSw
      (try dsimp only at hSw)
      (go_simp <;> with_reducible rfl)))
 try simp only [Act.put, puts]
 refine wpAnyH_done (by kernel_rfl) ?_ _
 go_wp2_with fail
 refine bodyPost_ret (v := .tuple #[.int .i64 0, .int .i64 1]) (by simp [results, Try.results94, go_sem]) rfl ⟨rfl, HB.out.drew⟩

set_option maxRecDepth 100000 in
set_option maxHeartbeats 4000000 in
theorem value_empty (kd : Int) (s : ByteArray) (k : Int) (hl : s.size ≤ 9223372036854775807) (w : World) (h0 : ¬ 0 < s.size) :
  Calls Try.prog 94 #[.agg #[.int .i64 kd, .string s, .int .i64 k]] w fun e w' => e = .returned (.tuple #[.int .i64 0, .int .i64 1]) ∧ Below w.heap.size w w' := by
 obtain ⟨n1, n2, n3⟩ := empty_of s h0
 by_cases hk : kd ≠ 2
 ·
  exact value_kind kd s k hl w hk
 have hk2 : kd = 2 := by omega
 subst hk2
 clear hk n3
 go_enter Try.func94, Try.ntmps94
 have k0 := blk_new w (.cells #[.int .i64 2, .string s, .int .i64 k] 75)
 obtain ⟨W0, hW0⟩ : ∃ W0, W0 = w.alloc (.cells #[.int .i64 2, .string s, .int .i64 k] 75) := ⟨_, rfl⟩
 have HB : Hid (Below w.heap.size w W0) := by rw [hW0]; exact (Below.refl _ w).alloc (Nat.le_refl _) _
 rw [← hW0] at k0
 have A0 := blk_cell k0 0
 have A1 := blk_cell k0 1
 have lA := blk_lt k0
 go_wp2_with fail
 rw [← hW0]
 clear k0 hW0
 refine wp_region_held_drew (S := (fun w' => w'.cell? ⟨w.heap.size, 0, none⟩ = some (.int .i64 2) ∧ w'.cell? ⟨w.heap.size, 1, none⟩ = some (.string s))) (by kernel_rfl) (by go_keep) (fun hHeld => ?_)
 first
  | (refine tku 0 ?_)
  | (refine tkl 0 ?_ ?_ ?_
     rotate_left
     (intro w hSw
      (try dsimp only at hSw)
      (go_simp <;> with_reducible rfl)))
 try simp only [Act.put, puts]
 first
  | (refine tku 1 ?_)
  | (refine tkl 1 ?_ ?_ ?_
     rotate_left
     (intro w hSw
      (try dsimp only at hSw)
      (go_simp <;> with_reducible rfl)))
 try simp only [Act.put, puts]
 first
  | (refine tku 2 ?_)
  | (refine tkl 2 ?_ ?_ ?_
     rotate_left
     (intro w hSw
      (try dsimp only at hSw)
      (go_simp <;> with_reducible rfl)))
 try simp only [Act.put, puts]
 first
  | (refine tku 3 ?_)
  | (refine tkl 3 ?_ ?_ ?_
     rotate_left
     (intro w hSw
      (try dsimp only at hSw)
      (go_simp <;> with_reducible rfl)))
 try simp only [Act.put, puts]
 first
  | (refine tku 4 ?_)
  | (refine tkl 4 ?_ ?_ ?_
     rotate_left
     (intro w hSw
      (try dsimp only at hSw)
      (go_simp <;> with_reducible rfl)))
 try simp only [Act.put, puts]
 first
  | (refine tku 5 ?_)
  | (refine tkl 5 ?_ ?_ ?_
     rotate_left
     (intro w hSw
      (try dsimp only at hSw)
      (go_simp <;> with_reducible rfl)))
 try simp only [Act.put, puts]
 first
  | (refine tku 6 ?_)
  | (refine tkl 6 ?_ ?_ ?_
     rotate_left
     (intro w hSw
      (try dsimp only at hSw)
      (go_simp <;> with_reducible rfl)))
 try simp only [Act.put, puts]
 first
  | (refine tku 7 ?_)
  | (refine tkl 7 ?_ ?_ ?_
     rotate_left
     (intro w hSw
      (try dsimp only at hSw)
      (go_simp <;> with_reducible rfl)))
 try simp only [Act.put, puts]
 first
  | (refine tku 8 ?_)
  | (refine tkl 8 ?_ ?_ ?_
     rotate_left
     (intro w hSw
      (try dsimp only at hSw)
      (go_simp <;> with_reducible rfl)))
 try simp only [Act.put, puts]
 first
  | (refine tku 9 ?_)
  | (refine tkl 9 ?_ ?_ ?_
     rotate_left
     (intro w hSw
      (try dsimp only at hSw)
      (go_simp <;> with_reducible rfl)))
 try simp only [Act.put, puts]
 first
  | (refine tku 10 ?_)
  | (refine tkl 10 ?_ ?_ ?_
     rotate_left
     (intro w hSw
      (try dsimp only at hSw)
      (go_simp <;> with_reducible rfl)))
 try simp only [Act.put, puts]
 first
  | (refine tku 11 ?_)
  | (refine tkl 11 ?_ ?_ ?_
     rotate_left
     (intro w hSw
      (try dsimp only at hSw)
      (go_simp <;> with_reducible rfl)))
 try simp only [Act.put, puts]
 first
  | (refine tku 12 ?_)
  | (refine tkl 12 ?_ ?_ ?_
     rotate_left
     (intro w hSw
      (try dsimp only at hSw)
      (go_simp <;> with_reducible rfl)))
 try simp only [Act.put, puts]
 first
  | (refine tku 13 ?_)
  | (refine tkl 13 ?_ ?_ ?_
     rotate_left
     (intro w hSw
      (try dsimp only at hSw)
      (go_simp <;> with_reducible rfl)))
 try simp only [Act.put, puts]
 first
  | (refine tku 14 ?_)
  | (refine tkl 14 ?_ ?_ ?_
     rotate_left
     (intro w hSw
      (try dsimp only at hSw)
      (go_simp <;> with_reducible rfl)))
 try simp only [Act.put, puts]
 first
  | (refine tku 15 ?_)
  | (refine tkl 15 ?_ ?_ ?_
     rotate_left
     (intro w hSw
      (try dsimp only at hSw)
      (go_simp <;> with_reducible rfl)))
 try simp only [Act.put, puts]
 first
  | (refine tku 16 ?_)
  | (refine tkl 16 ?_ ?_ ?_
     rotate_left
     (intro w hSw
      (try dsimp only at hSw)
      (go_simp <;> with_reducible rfl)))
 try simp only [Act.put, puts]
 first
  | (refine tku 17 ?_)
  | (refine tkl 17 ?_ ?_ ?_
     rotate_left
     (intro w hSw
      (try dsimp only at hSw)
      (go_simp <;> with_reducible rfl)))
 try simp only [Act.put, puts]
 first
  | (refine tku 18 ?_)
  | (refine tkl 18 ?_ ?_ ?_
     rotate_left
     (intro w hSw
      (try dsimp only at hSw)
      (go_simp <;> with_reducible rfl)))
 try simp only [Act.put, puts]
 first
  | (refine tku 19 ?_)
  | (refine tkl 19 ?_ ?_ ?_
     rotate_left
     (intro w hSw
      (try dsimp only at hSw)
      (go_simp <;> with_reducible rfl)))
 try simp only [Act.put, puts]
 first
  | (refine tku 20 ?_)
  | (refine tkl 20 ?_ ?_ ?_
     rotate_left
     (intro w hSw
      (try dsimp only at hSw)
      (go_simp <;> with_reducible rfl)))
 try simp only [Act.put, puts]
 first
  | (refine tku 21 ?_)
  | (refine tkl 21 ?_ ?_ ?_
     rotate_left
     (intro w hSw
      (try dsimp only at hSw)
      (go_simp <;> with_reducible rfl)))
 try simp only [Act.put, puts]
 first
  | (refine tku 22 ?_)
  | (refine tkl 22 ?_ ?_ ?_
     rotate_left
     (intro w hSw
      (try dsimp only at hSw)
      (go_simp <;> with_reducible rfl)))
 try simp only [Act.put, puts]
 refine wpAnyH_done (by kernel_rfl) ?_ _
 go_wp2_with fail
 refine bodyPost_ret (v := .tuple #[.int .i64 0, .int .i64 1]) (by simp [results, Try.results94, go_sem]) rfl ⟨rfl, HB.out.drew⟩

set_option maxRecDepth 100000 in
set_option maxHeartbeats 4000000 in
theorem value_long (kd : Int) (s : ByteArray) (k : Int) (hl : s.size ≤ 9223372036854775807) (w : World) (h9 : 9 < s.size) :
  Calls Try.prog 94 #[.agg #[.int .i64 kd, .string s, .int .i64 k]] w fun e w' => e = .returned (.tuple #[.int .i64 0, .int .i64 1]) ∧ Below w.heap.size w w' := by
 obtain ⟨n1, n2⟩ := nonempty s (by omega)
 by_cases hk : kd ≠ 2
 ·
  exact value_kind kd s k hl w hk
 have hk2 : kd = 2 := by omega
 subst hk2
 have h9' : decide ((9 : Int) < (s.size : Int)) = true := by simp; omega
 clear hk
 go_enter Try.func94, Try.ntmps94
 have k0 := blk_new w (.cells #[.int .i64 2, .string s, .int .i64 k] 75)
 obtain ⟨W0, hW0⟩ : ∃ W0, W0 = w.alloc (.cells #[.int .i64 2, .string s, .int .i64 k] 75) := ⟨_, rfl⟩
 have HB : Hid (Below w.heap.size w W0) := by rw [hW0]; exact (Below.refl _ w).alloc (Nat.le_refl _) _
 rw [← hW0] at k0
 have A0 := blk_cell k0 0
 have A1 := blk_cell k0 1
 have lA := blk_lt k0
 go_wp2_with fail
 rw [← hW0]
 clear k0 hW0
 refine wp_region_held_drew (S := (fun w' => w'.cell? ⟨w.heap.size, 0, none⟩ = some (.int .i64 2) ∧ w'.cell? ⟨w.heap.size, 1, none⟩ = some (.string s))) (by kernel_rfl) (by go_keep) (fun hHeld => ?_)
 first
  | (refine tku 0 ?_)
  | (refine tkl 0 ?_ ?_ ?_
     rotate_left
     (intro w hSw
      (try dsimp only at hSw)
      (go_simp <;> with_reducible rfl)))
 try simp only [Act.put, puts]
 first
  | (refine tku 1 ?_)
  | (refine tkl 1 ?_ ?_ ?_
     rotate_left
     (intro w hSw
      (try dsimp only at hSw)
      (go_simp <;> with_reducible rfl)))
 try simp only [Act.put, puts]
 first
  | (refine tku 2 ?_)
  | (refine tkl 2 ?_ ?_ ?_
     rotate_left
     (intro w hSw
      (try dsimp only at hSw)
      (go_simp <;> with_reducible rfl)))
 try simp only [Act.put, puts]
 first
  | (refine tku 3 ?_)
  | (refine tkl 3 ?_ ?_ ?_
     rotate_left
     (intro w hSw
      (try dsimp only at hSw)
      (go_simp <;> with_reducible rfl)))
 try simp only [Act.put, puts]
 first
  | (refine tku 4 ?_)
  | (refine tkl 4 ?_ ?_ ?_
     rotate_left
     (intro w hSw
      (try dsimp only at hSw)
      (go_simp <;> with_reducible rfl)))
 try simp only [Act.put, puts]
 first
  | (refine tku 5 ?_)
  | (refine tkl 5 ?_ ?_ ?_
     rotate_left
     (intro w hSw
      (try dsimp only at hSw)
      (go_simp <;> with_reducible rfl)))
 try simp only [Act.put, puts]
 first
  | (refine tku 6 ?_)
  | (refine tkl 6 ?_ ?_ ?_
     rotate_left
     (intro w hSw
      (try dsimp only at hSw)
      (go_simp <;> with_reducible rfl)))
 try simp only [Act.put, puts]
 first
  | (refine tku 7 ?_)
  | (refine tkl 7 ?_ ?_ ?_
     rotate_left
     (intro w hSw
      (try dsimp only at hSw)
      (go_simp <;> with_reducible rfl)))
 try simp only [Act.put, puts]
 first
  | (refine tku 8 ?_)
  | (refine tkl 8 ?_ ?_ ?_
     rotate_left
     (intro w hSw
      (try dsimp only at hSw)
      (go_simp <;> with_reducible rfl)))
 try simp only [Act.put, puts]
 first
  | (refine tku 9 ?_)
  | (refine tkl 9 ?_ ?_ ?_
     rotate_left
     (intro w hSw
      (try dsimp only at hSw)
      (go_simp <;> with_reducible rfl)))
 try simp only [Act.put, puts]
 first
  | (refine tku 10 ?_)
  | (refine tkl 10 ?_ ?_ ?_
     rotate_left
     (intro w hSw
      (try dsimp only at hSw)
      (go_simp <;> with_reducible rfl)))
 try simp only [Act.put, puts]
 first
  | (refine tku 11 ?_)
  | (refine tkl 11 ?_ ?_ ?_
     rotate_left
     (intro w hSw
      (try dsimp only at hSw)
      (go_simp <;> with_reducible rfl)))
 try simp only [Act.put, puts]
 first
  | (refine tku 12 ?_)
  | (refine tkl 12 ?_ ?_ ?_
     rotate_left
     (intro w hSw
      (try dsimp only at hSw)
      (go_simp <;> with_reducible rfl)))
 try simp only [Act.put, puts]
 first
  | (refine tku 13 ?_)
  | (refine tkl 13 ?_ ?_ ?_
     rotate_left
     (intro w hSw
      (try dsimp only at hSw)
      (go_simp <;> with_reducible rfl)))
 try simp only [Act.put, puts]
 first
  | (refine tku 14 ?_)
  | (refine tkl 14 ?_ ?_ ?_
     rotate_left
     (intro w hSw
      (try dsimp only at hSw)
      (go_simp <;> with_reducible rfl)))
 try simp only [Act.put, puts]
 first
  | (refine tku 15 ?_)
  | (refine tkl 15 ?_ ?_ ?_
     rotate_left
     (intro w hSw
      (try dsimp only at hSw)
      (go_simp <;> with_reducible rfl)))
 try simp only [Act.put, puts]
 first
  | (refine tku 16 ?_)
  | (refine tkl 16 ?_ ?_ ?_
     rotate_left
     (intro w hSw
      (try dsimp only at hSw)
      (go_simp <;> with_reducible rfl)))
 try simp only [Act.put, puts]
 first
  | (refine tku 17 ?_)
  | (refine tkl 17 ?_ ?_ ?_
     rotate_left
     (intro w hSw
      (try dsimp only at hSw)
      (go_simp <;> with_reducible rfl)))
 try simp only [Act.put, puts]
 first
  | (refine tku 18 ?_)
  | (refine tkl 18 ?_ ?_ ?_
     rotate_left
     (intro w hSw
      (try dsimp only at hSw)
      (go_simp <;> with_reducible rfl)))
 try simp only [Act.put, puts]
 first
  | (refine tku 19 ?_)
  | (refine tkl 19 ?_ ?_ ?_
     rotate_left
     (intro w hSw
      (try dsimp only at hSw)
      (go_simp <;> with_reducible rfl)))
 try simp only [Act.put, puts]
 first
  | (refine tku 20 ?_)
  | (refine tkl 20 ?_ ?_ ?_
     rotate_left
     (intro w hSw
      (try dsimp only at hSw)
      (go_simp <;> with_reducible rfl)))
 try simp only [Act.put, puts]
 first
  | (refine tku 21 ?_)
  | (refine tkl 21 ?_ ?_ ?_
     rotate_left
     (intro w hSw
      (try dsimp only at hSw)
      (go_simp <;> with_reducible rfl)))
 try simp only [Act.put, puts]
 first
  | (refine tku 22 ?_)
  | (refine tkl 22 ?_ ?_ ?_
     rotate_left
     (intro w hSw
      (try dsimp only at hSw)
      (go_simp <;> with_reducible rfl)))
 try simp only [Act.put, puts]
 refine wpAnyH_done (by kernel_rfl) ?_ _
 go_wp2_with fail
 refine bodyPost_ret (v := .tuple #[.int .i64 0, .int .i64 1]) (by simp [results, Try.results94, go_sem]) rfl ⟨rfl, HB.out.drew⟩

set_option maxRecDepth 100000 in
set_option maxHeartbeats 4000000 in
theorem value_run (kd : Int) (s : ByteArray) (k : Int) (hl : s.size ≤ 9223372036854775807) (w : World) (h0 : 0 < s.size) (h9 : s.size ≤ 9) (hr : runLen isDigit s.data.toList ≠ s.size) :
  Calls Try.prog 94 #[.agg #[.int .i64 kd, .string s, .int .i64 k]] w fun e w' => e = .returned (.tuple #[.int .i64 0, .int .i64 1]) ∧ Below w.heap.size w w' := by
 obtain ⟨n1, n2⟩ := nonempty s h0
 by_cases hk : kd ≠ 2
 ·
  exact value_kind kd s k hl w hk
 have hk2 : kd = 2 := by omega
 subst hk2
 have h9' : decide ((9 : Int) < (s.size : Int)) = false := by simp; omega
 have rc := hide (fun w => run_digit s hl w)
 have hr1 : ((runLen isDigit s.data.toList : Int) == (s.size : Int)) = false := by simp; omega
 have hr2 : ((runLen isDigit s.data.toList : Int) != (s.size : Int)) = true := by simp; omega
 generalize runLen isDigit s.data.toList = R at *
 clear hk
 go_enter Try.func94, Try.ntmps94
 have k0 := blk_new w (.cells #[.int .i64 2, .string s, .int .i64 k] 75)
 obtain ⟨W0, hW0⟩ : ∃ W0, W0 = w.alloc (.cells #[.int .i64 2, .string s, .int .i64 k] 75) := ⟨_, rfl⟩
 have HB : Hid (Below w.heap.size w W0) := by rw [hW0]; exact (Below.refl _ w).alloc (Nat.le_refl _) _
 rw [← hW0] at k0
 have A0 := blk_cell k0 0
 have A1 := blk_cell k0 1
 have lA := blk_lt k0
 go_wp2_with fail
 rw [← hW0]
 clear k0 hW0
 go_region_held3 (fun w' => w'.cell? ⟨w.heap.size, 0, none⟩ = some (.int .i64 2) ∧ w'.cell? ⟨w.heap.size, 1, none⟩ = some (.string s))
  (go_keep)
  (first | (go_at_call 99; refine (rc.out _).mono ?_; rintro e w3 ⟨rfl, h3⟩; subst h3))
 go_wp2_with fail
 refine bodyPost_ret (v := .tuple #[.int .i64 0, .int .i64 1]) (by simp [results, Try.results94, go_sem]) rfl ⟨rfl, HB.out.drew⟩

set_option maxRecDepth 100000 in
set_option maxHeartbeats 4000000 in
theorem value_ok (s : ByteArray) (k : Int) (hl : s.size ≤ 9223372036854775807) (w : World) (h0 : 0 < s.size) (h9 : s.size ≤ 9) (hr : runLen isDigit s.data.toList = s.size) :
  Calls Try.prog 94 #[.agg #[.int .i64 2, .string s, .int .i64 k]] w fun e w' => e = .returned (.tuple #[.int .i64 (valL s.data.toList 0), .int .i64 0]) ∧ Below w.heap.size w w' := by
 obtain ⟨n1, n2⟩ := nonempty s h0
 have hdig := hide (runLen_all isDigit s.data.toList (by rw [hr]; simp))
 have h9' : decide ((9 : Int) < (s.size : Int)) = false := by simp; omega
 have rc := hide (fun w => run_digit s hl w)
 rw [hr] at rc
 clear hr
 have hcv := fun w => run_bytes_of_string (P := Try.prog) w 9 141 5 s (by kernel_rfl) (by kernel_rfl) (by kernel_rfl)
 go_enter Try.func94, Try.ntmps94
 have k0 := blk_new w (.cells #[.int .i64 2, .string s, .int .i64 k] 75)
 obtain ⟨W0, hW0⟩ : ∃ W0, W0 = w.alloc (.cells #[.int .i64 2, .string s, .int .i64 k] 75) := ⟨_, rfl⟩
 have HB : Hid (Below w.heap.size w W0) := by rw [hW0]; exact (Below.refl _ w).alloc (Nat.le_refl _) _
 rw [← hW0] at k0
 have A0 := blk_cell k0 0
 have A1 := blk_cell k0 1
 have lA := blk_lt k0
 go_wp2_with fail
 rw [← hW0]
 clear k0 hW0
 go_region_held3 (fun w' => w'.cell? ⟨w.heap.size, 0, none⟩ = some (.int .i64 2) ∧ w'.cell? ⟨w.heap.size, 1, none⟩ = some (.string s))
  (go_keep)
  (first | (go_at_call 99; refine (rc.out _).mono ?_; rintro e w3 ⟨rfl, h3⟩; subst h3))
 have B1 : Hid (Below w.heap.size w W0.drew) := HB.out.drew
 go_wp2_with fail
 obtain ⟨W1, hW1⟩ : ∃ W1, W1 = (W0.alloc (Obj.cells (bytesRow s (grownCap W0.drew s.size 0 5)) 5 ((bytesRow s (grownCap W0.drew s.size 0 5)).size, (bytesRow s (grownCap W0.drew s.size 0 5)).size + 1))).drew.drew := ⟨_, rfl⟩
 have HB1 : Hid (Below w.heap.size w W1) := by rw [hW1]; exact (HB.out.alloc HB.out.size _).drew.drew
 have hcell : Hid (∀ k (h : k < s.size), W1.cell? ⟨W0.heap.size, k, none⟩ = some (.int .u8 (s[k].toNat : Int))) := by
  intro k h
  rw [hW1]
  exact bytesRow_cell W0 s _ _ k h
 rw [← hW1]
 clear hW1
 go_loop [4, 34] (fun n i => ∃ k v : Nat, k ≤ s.size ∧ n = .int .i64 v ∧ i = .int .i64 k ∧ v < 10 ^ k ∧ Hid (valL (s.data.toList.drop k) v = valL s.data.toList 0)) (fun _ i => s.size - (intOf i).toNat)
 case atStart => exact ⟨0, 0, Nat.zero_le _, rfl, rfl, by simp, by simp [Hid]⟩
 case round =>
  obtain ⟨k, v, hk, rfl, rfl, hv, hval⟩ := hrel
  by_cases hlt : k < s.size
  ·
   have hc := hcell.out k hlt
   have hd : isDigit s[k] = true := hdig.out _ (List.mem_of_mem_drop (i := k) (by rw [bs_get s k hlt]; simp))
   have h48 : 48 ≤ s[k].toNat ∧ s[k].toNat ≤ 57 := by simpa [isDigit] using hd
   have hval2 := hval.out
   rw [bs_get s k hlt] at hval2
   have HV2 : Hid (valL (s.data.toList.drop (k + 1)) (10 * v + (s[k].toNat - 48)) = valL s.data.toList 0) := hval2
   have hp : v ≤ 99999999 := by
    have : 10 ^ k ≤ 10 ^ 8 := Nat.pow_le_pow_right (by omega) (by omega)
    omega
   have hp2 : 10 * v + (s[k].toNat - 48) < 10 ^ (k + 1) := by rw [Nat.pow_succ]; omega
   have hltI : (k : Int) < (s.size : Int) := by omega
   clear hval hval2 hd
   generalize s[k].toNat = c at *
   have ew : IntKind.u8.wrap ((c : Int) - 48) = (c : Int) - 48 := by rw [IntKind.wrap_u8]; omega
   go_wp2_with fail
   skip
   go_round
   case rel => exact ⟨k + 1, 10 * v + (c - 48), by omega, by go_num, by go_num, hp2, HV2⟩
   case measure => simp [intOf]; omega
  ·
   have hke : k = s.size := by omega
   have hval2 := hval.out
   rw [List.drop_eq_nil_of_le (by simp; omega)] at hval2
   have HV2 : Hid (v = valL s.data.toList 0) := hval2
   clear hval hval2
   go_wp2_with fail
   refine bodyPost_ret (v := .tuple #[.int .i64 v, .int .i64 0]) (by simp [results, Try.results94, go_sem]) rfl ⟨by rw [HV2.out], HB1.out⟩

set_option maxRecDepth 100000 in
set_option maxHeartbeats 4000000 in
theorem value_any (kd : Int) (s : ByteArray) (k : Int) (hl : s.size ≤ 9223372036854775807) (w : World) (F : Int × Int) (hF : F = if kd = 2 ∧ numB s = true then ((valL s.data.toList 0 : Int), 0) else (0, 1)) :
  Calls Try.prog 94 #[.agg #[.int .i64 kd, .string s, .int .i64 k]] w fun e w' => e = .returned (.tuple #[.int .i64 F.1, .int .i64 F.2]) ∧ Below w.heap.size w w' := by
 subst hF
 by_cases hk : kd = 2
 ·
  subst hk
  by_cases hn : numB s = true
  ·
   rw [if_pos ⟨rfl, hn⟩]
   simp only [numB, Bool.and_eq_true, decide_eq_true_eq] at hn
   exact value_ok s k hl w hn.1 hn.2.1 hn.2.2
  ·
   rw [if_neg (fun h => hn h.2)]
   by_cases h0 : 0 < s.size
   ·
    by_cases h9 : s.size ≤ 9
    ·
     by_cases hr : runLen isDigit s.data.toList = s.size
     ·
      exact absurd (by simp [numB, h0, h9, hr]) hn
     ·
      exact value_run 2 s k hl w h0 h9 hr
    ·
     exact value_long 2 s k hl w (by omega)
   ·
    exact value_empty 2 s k hl w h0
 ·
  rw [if_neg (fun h => hk h.1)]
  exact value_kind kd s k hl w hk

set_option maxRecDepth 100000 in
set_option maxHeartbeats 4000000 in
theorem refValue_any (s : ByteArray) (hs : s.size ≤ 9) (hr : runLen isDigit s.data.toList = s.size) (w : World) :
  Calls Try.prog 72 #[.string s] w fun e w' => e = .returned (.int .i64 (valL s.data.toList 0)) ∧ w = w' := by
 have hdig := hide (runLen_all isDigit s.data.toList (by rw [hr]; simp))
 clear hr
 go_enter Try.func72, Try.ntmps72
 go_wp2_with fail
 go_loop [3, 4] (fun n i => ∃ k v : Nat, k ≤ s.size ∧ n = .int .i64 v ∧ i = .int .i64 k ∧ v < 10 ^ k ∧ Hid (valL (s.data.toList.drop k) v = valL s.data.toList 0)) (fun _ i => s.size - (intOf i).toNat)
 case atStart => exact ⟨0, 0, Nat.zero_le _, rfl, rfl, by simp, by simp [Hid]⟩
 case round =>
  obtain ⟨k, v, hk, rfl, rfl, hv, hval⟩ := hrel
  by_cases hlt : k < s.size
  ·
   have hd : isDigit s[k] = true := hdig.out _ (List.mem_of_mem_drop (i := k) (by rw [bs_get s k hlt]; simp))
   have h48 : 48 ≤ s[k].toNat ∧ s[k].toNat ≤ 57 := by simpa [isDigit] using hd
   have hval2 := hval.out
   rw [bs_get s k hlt] at hval2
   have HV2 : Hid (valL (s.data.toList.drop (k + 1)) (10 * v + (s[k].toNat - 48)) = valL s.data.toList 0) := hval2
   have hp : v ≤ 99999999 := by
    have : 10 ^ k ≤ 10 ^ 8 := Nat.pow_le_pow_right (by omega) (by omega)
    omega
   have hp2 : 10 * v + (s[k].toNat - 48) < 10 ^ (k + 1) := by rw [Nat.pow_succ]; omega
   have hltI : (k : Int) < (s.size : Int) := by omega
   clear hval hval2 hd
   go_wp2_with fail
   go_round
   case rel => exact ⟨k + 1, 10 * v + (s[k].toNat - 48), by omega, by go_num, by go_num, hp2, HV2⟩
   case measure => simp [intOf]; omega
  ·
   have hval2 := hval.out
   rw [List.drop_eq_nil_of_le (by simp; omega)] at hval2
   have HV2 : Hid (v = valL s.data.toList 0) := hval2
   clear hval hval2
   go_wp2_with fail
   go_ret
   exact ⟨by rw [HV2.out]; rfl, rfl⟩

theorem lexG_code (s : ByteArray) : ∀ f k b x, (lexG s f k b).2 = some x → x.1 ≠ 0 := by
 intro f
 induction f with
 | zero => intro k b x h; simp [lexG] at h
 | succ f ih =>
   intro k b x h
   simp only [lexG] at h
   split at h
   ·
    simp at h
   ·
    split at h
    ·
     simp at h; subst h; simp
    ·
     split at h
     ·
      simp at h; subst h; simp
     ·
      exact ih _ _ _ h

end Go.Proofs.Ytboeeaekhijboaa
