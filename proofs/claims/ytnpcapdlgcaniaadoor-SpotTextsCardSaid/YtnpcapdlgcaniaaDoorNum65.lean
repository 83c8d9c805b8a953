/- A number as text read back: spot.number. -/
import Derived.Test.YtnpcapdlgcaniaaDoorTextLaw
import Derived.Laws.IdiomStrings
namespace Go.Proofs.YtnpcapdlgcaniaaDoor
open Go.RowKit
set_option linter.unusedVariables false
set_option linter.unusedSimpArgs false

theorem sbs_get (s : ByteArray) (k : Nat) (h : k < s.size) : s.data.toList.drop k = s[k] :: s.data.toList.drop (k + 1) := by
  have : k < s.data.toList.length := by simpa using h
  rw [List.drop_eq_getElem_cons this]
  rfl
theorem sbs_len (s : ByteArray) : s.data.toList.length = s.size := by simp
theorem snonempty (s : ByteArray) (h : 0 < s.size) : s.toList.isEmpty = false ∧ ¬ s.toList = [] := by
  rw [Lib.toList_data]
  have e : s.data.toList ≠ [] := by
    intro e
    have h2 : s.data.toList.length = 0 := by rw [e]; rfl
    have h3 := sbs_len s
    omega
  exact ⟨by cases hx : s.data.toList with
    | nil => exact absurd hx e
    | cons a r => rfl, e⟩
theorem sempty_of (s : ByteArray) (h : ¬ 0 < s.size) : s.toList.isEmpty = true ∧ s.toList = [] ∧ s.data.toList = [] := by
  have e : s.data.toList = [] := by
    apply List.eq_nil_of_length_eq_zero
    have h3 := sbs_len s
    omega
  rw [Lib.toList_data, e]
  exact ⟨rfl, rfl, rfl⟩
theorem sbytesRow_cell (w : World) (s : ByteArray) (cap : Nat) (f : Nat × Nat) (k : Nat) (h : k < s.size) : (w.alloc (.cells (bytesRow s cap) 5 f)).cell? ⟨w.heap.size, k, none⟩ = some (.int .u8 (s[k].toNat : Int)) := by
  have h1 : (w.alloc (.cells (bytesRow s cap) 5 f)).heap[w.heap.size]? = some (.cells (bytesRow s cap) 5 f) := heap_alloc_new w _
  unfold World.cell?
  rw [h1]
  have h2 : k < (s.data.map (fun b => Value.int .u8 b.toNat)).size := by simpa using h
  simp [bytesRow, Array.getElem?_append, h]
  rfl

def resN (p : List UInt8) : Int × Bool := match numL p with | some v => (v, true) | none => (0, false)
theorem resN_bad {p : List UInt8} (h : badN p = true) : resN p = (0, false) := by unfold resN numL; rw [if_pos h]
theorem resN_ok {p : List UInt8} (h : badN p = false) : resN p = if p.all dig then (valD p 0, true) else (0, false) := by
  unfold resN numL
  rw [if_neg (by simp [h])]
  cases p.all dig <;> rfl

set_option maxRecDepth 100000 in
set_option maxHeartbeats 4000000 in
theorem num_bad (s : ByteArray) (hs : s.size ≤ 1000000) (w : World) (h : badN s.data.toList = true) :
    Calls Tryd.prog 65 #[.string s] w fun e w' => e = .returned (.tuple #[.int .i64 (resN s.data.toList).1, .bool (resN s.data.toList).2]) ∧ Below w.heap.size w w' := by
  rw [resN_bad h]
  by_cases h0 : 0 < s.size
  · obtain ⟨n1, n2⟩ := snonempty s h0
    have h0I : (0 : Int) < (s.size : Int) := by omega
    by_cases h3 : (s.size : Int) ≤ 3
    · have hz : s[0].toNat = 48 ∧ 1 < s.size := by
        have e := sbs_get s 0 h0
        rw [List.drop_zero] at e
        have hl := sbs_len s
        unfold badN at h
        rw [hl] at h
        have h4 : ¬ 3 < s.size := by omega
        rw [e] at h
        simp [h4] at h
        exact ⟨by rw [h.1]; rfl, h.2⟩
      obtain ⟨hz0, hz1⟩ := hz
      have hz1I : (1 : Int) < (s.size : Int) := by omega
      have hc : ((s[0].toNat : Int) == 48) = true := by simp; omega
      clear h
      go_enter Tryd.func65, Tryd.ntmps65
      go_wp2_with fail
      all_goals first | exact bodyPost_ret (v := .tuple #[.int .i64 0, .bool false]) (by simp [results, Tryd.results65, go_sem]) rfl ⟨rfl, Below.refl _ _⟩ | (exfalso; omega)
    · have h3I : (3 : Int) < (s.size : Int) := by omega
      clear h
      go_enter Tryd.func65, Tryd.ntmps65
      go_wp2_with fail
      exact bodyPost_ret (v := .tuple #[.int .i64 0, .bool false]) (by simp [results, Tryd.results65, go_sem]) rfl ⟨rfl, Below.refl _ _⟩
  · obtain ⟨n1, n2, n3⟩ := sempty_of s h0
    clear h
    go_enter Tryd.func65, Tryd.ntmps65
    go_wp2_with fail
    exact bodyPost_ret (v := .tuple #[.int .i64 0, .bool false]) (by simp [results, Tryd.results65, go_sem]) rfl ⟨rfl, Below.refl _ _⟩

set_option maxRecDepth 100000 in
set_option maxHeartbeats 4000000 in
theorem num_good (s : ByteArray) (w : World) (h : badN s.data.toList = false) :
    Calls Tryd.prog 65 #[.string s] w fun e w' => e = .returned (.tuple #[.int .i64 (resN s.data.toList).1, .bool (resN s.data.toList).2]) ∧ Below w.heap.size w w' := by
  have HR := hide (resN_ok h)
  generalize resN s.data.toList = R at *
  obtain ⟨R1, R2⟩ := R
  have hl := sbs_len s
  have h0 : 0 < s.size := by
    by_cases h0 : 0 < s.size
    · exact h0
    · obtain ⟨n1, n2, n3⟩ := sempty_of s h0
      rw [n3] at h
      cases h
  have e := sbs_get s 0 h0
  rw [List.drop_zero] at e
  obtain ⟨n1, n2⟩ := snonempty s h0
  have h0I : (0 : Int) < (s.size : Int) := by omega
  have h3 : s.size ≤ 3 := by
    unfold badN at h
    rw [hl] at h
    simp at h
    omega
  have h3I : ¬ (3 : Int) < (s.size : Int) := by omega
  have hz : ¬ (s[0].toNat = 48 ∧ 1 < s.size) := by
    rintro ⟨a, b⟩
    have a' : s[0] = 48 := UInt8.toNat_inj.1 (by rw [a]; rfl)
    unfold badN at h
    rw [hl, e] at h
    simp [a', b] at h
  clear h e hl
  have hcv := fun w => run_bytes_of_string (P := Tryd.prog) w 9 129 5 s (by kernel_rfl) (by kernel_rfl) (by kernel_rfl)
  go_enter Tryd.func65, Tryd.ntmps65
  go_wp2_with fail
  all_goals try (exfalso; omega)
  all_goals (
    obtain ⟨W1, hW1⟩ : ∃ W1, W1 = (w.alloc (Obj.cells (bytesRow s (grownCap w s.size 0 5)) 5 ((bytesRow s (grownCap w s.size 0 5)).size, (bytesRow s (grownCap w s.size 0 5)).size + 1))).drew := ⟨_, rfl⟩
    have HB1 : Hid (Below w.heap.size w W1) := by rw [hW1]; exact ((Below.refl _ w).alloc (Nat.le_refl _) _).drew
    have hcell : Hid (∀ k (h : k < s.size), W1.cell? ⟨w.heap.size, k, none⟩ = some (.int .u8 (s[k].toNat : Int))) := by
      intro k h
      rw [hW1]
      exact sbytesRow_cell w s _ _ k h
    rw [← hW1]
    clear hW1
    clear hcv
    go_loop [4, 27] (fun n i => ∃ k v : Nat, k ≤ s.size ∧ n = .int .i64 v ∧ i = .int .i64 k ∧ v < 10 ^ k ∧ Hid (valD (s.data.toList.drop k) v = valD s.data.toList 0) ∧ Hid (s.data.toList.all dig = (s.data.toList.drop k).all dig)) (fun _ i => s.size - (intOf i).toNat)
    case atStart => exact ⟨0, 0, Nat.zero_le _, rfl, rfl, by simp, by simp [Hid], by simp [Hid]⟩
    case round =>
      obtain ⟨k, v, hk, rfl, rfl, hv, hval, hall⟩ := hrel
      by_cases hlt : k < s.size
      · have hc := hcell.out k hlt
        have hval2 := hval.out
        have hall2 := hall.out
        rw [sbs_get s k hlt] at hval2 hall2
        have hltI : (k : Int) < (s.size : Int) := by omega
        have hv9 : v ≤ 99 := by
          have : 10 ^ k ≤ 10 ^ 2 := Nat.pow_le_pow_right (by omega) (by omega)
          omega
        by_cases hd : dig s[k] = true
        · have h48 := (dig_iff _).1 hd
          have HA2 : Hid (s.data.toList.all dig = (s.data.toList.drop (k + 1)).all dig) := by
            unfold Hid
            rw [hall2, List.all_cons, hd, Bool.true_and]
          have HV2 : Hid (valD (s.data.toList.drop (k + 1)) ((10 * v + (s[k].toNat - 48) : Nat) : Int) = valD s.data.toList 0) := by
            unfold Hid
            rw [← hval2]
            simp only [valD]
            congr 1
            omega
          have hp2 : 10 * v + (s[k].toNat - 48) < 10 ^ (k + 1) := by rw [Nat.pow_succ]; omega
          clear hval hval2 hall hall2 hd
          generalize s[k].toNat = c at *
          have ew : IntKind.u8.wrap ((c : Int) - 48) = (c : Int) - 48 := by rw [IntKind.wrap_u8]; omega
          have l1 : ((c : Int) < 48) = False := by simp; omega
          have l2 : ((57 : Int) < c) = False := by simp; omega
          go_wp2_with fail
          all_goals try (exfalso; omega)
          go_round
          case rel => exact ⟨k + 1, 10 * v + (c - 48), by omega, by go_num, by go_num, hp2, HV2, HA2⟩
          case measure => simp [intOf]; omega
        · have hd' : dig s[k] = false := by simpa using hd
          have hbad : ¬ (48 ≤ s[k].toNat ∧ s[k].toNat ≤ 57) := fun h => hd ((dig_iff _).2 h)
          have HE : Hid ((R1, R2) = ((0 : Int), false)) := by
            unfold Hid
            rw [HR.out, if_neg]
            rw [hall2, List.all_cons, hd']
            simp
          clear hval hval2 hall hall2 hd hd'
          generalize s[k].toNat = c at *
          go_wp2_with fail
          all_goals first
            | (refine bodyPost_ret (v := .tuple #[.int .i64 0, .bool false]) (by simp [results, Tryd.results65, go_sem]) rfl ⟨?_, HB1.out⟩
               obtain ⟨rfl, rfl⟩ := Prod.mk.inj HE.out
               rfl)
            | (exfalso; omega)
      · have hke : k = s.size := by omega
        have hval2 := hval.out
        have hall2 := hall.out
        rw [List.drop_eq_nil_of_le (by simp; omega)] at hval2 hall2
        have HE : Hid ((R1, R2) = ((v : Int), true)) := by
          unfold Hid
          rw [HR.out, if_pos (by rw [hall2]; rfl), ← hval2]
          rfl
        clear hval hval2 hall hall2
        go_wp2_with fail
        refine bodyPost_ret (v := .tuple #[.int .i64 v, .bool true]) (by simp [results, Tryd.results65, go_sem]) rfl ⟨?_, HB1.out⟩
        obtain ⟨rfl, rfl⟩ := Prod.mk.inj HE.out
        rfl)

/-- a number as text read back -/
theorem num_any (s : ByteArray) (hs : s.size ≤ 1000000) (w : World) :
    Calls Tryd.prog 65 #[.string s] w fun e w' => e = .returned (.tuple #[.int .i64 (resN s.data.toList).1, .bool (resN s.data.toList).2]) ∧ Below w.heap.size w w' := by
  cases h : badN s.data.toList
  · exact num_good s w h
  · exact num_bad s hs w h
end Go.Proofs.YtnpcapdlgcaniaaDoor
