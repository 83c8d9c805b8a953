/- Contracts of a row of bits: has, put, join. -/
import Derived.Test.YtdcpcemihpkkaaaBase
namespace Go.Proofs.Ytdcpcemihpkkaaa
open Go.RowKit
set_option linter.unusedVariables false
set_option linter.unusedSimpArgs false

theorem shr_bit (x r : Nat) (hx : x < 18446744073709551616) : (bits .and .u64 ((x : Int) / 2 ^ r) 1 == 1) = x.testBit r := by
  have e : ((x : Int) / 2 ^ r) = ((x / 2 ^ r : Nat) : Int) := by simp
  have hle : x / 2 ^ r ≤ x := Nat.div_le_self _ _
  have h1 := u64_and_nat (x / 2 ^ r) 1 (by omega) (by decide)
  rw [e, show (1 : Int) = ((1 : Nat) : Int) from rfl, h1, nat_mask1, ← bit_shift]
  rcases Nat.mod_two_eq_zero_or_one (x / 2 ^ r) with h | h <;> simp [h]

theorem has_any (g m cap i : Nat) (ws : Nat → Nat) (hi : i / 64 < m) (hb : i ≤ 100000) (w : World) (h : Row w g m ws) :
    Calls Try.prog 26 #[.slice (some ⟨g, 0, none⟩) m cap, .int .i64 (i : Int)] w fun e w' => e = .returned (.bool (bitAt ws i)) ∧ w = w' := by
  have hc := h.cell hi
  have hx := h.bd hi
  have E := hide (shr_bit (ws (i / 64)) (i % 64) hx)
  unfold bitAt
  generalize ws (i / 64) = x at *
  clear h
  go_enter Try.func26, Try.ntmps26
  go_wp2_with fail
  go_ret
  exact ⟨by rw [← E.out]; rfl, rfl⟩

theorem or_bd (x y : Nat) (hx : x < 18446744073709551616) (hy : y < 18446744073709551616) : x ||| y < 18446744073709551616 := Nat.or_lt_two_pow (n := 64) hx hy
theorem pow_bd (r : Nat) (h : r < 64) : 2 ^ r < 18446744073709551616 := Nat.pow_lt_pow_right (by decide) h

theorem shl_bit (x r : Nat) (hx : x < 18446744073709551616) (hr : r < 64) : bits .or .u64 (x : Int) (IntKind.u64.wrap (2 ^ r)) = ((x ||| 2 ^ r : Nat) : Int) := by
  have e : ((2 : Int) ^ r) = ((2 ^ r : Nat) : Int) := by simp
  have h2 := pow_bd r hr
  have h3 : IntKind.u64.wrap (2 ^ r) = ((2 ^ r : Nat) : Int) := by
    rw [e, IntKind.wrap_u64]
    clear e
    generalize (2 ^ r : Nat) = y at *
    omega
  rw [h3]
  exact u64_or_nat x (2 ^ r) hx h2

theorem put_any (g m cap i : Nat) (ws : Nat → Nat) (hi : i / 64 < m) (hb : i ≤ 100000) (w : World) (h : Row w g m ws) :
    Calls Try.prog 41 #[.slice (some ⟨g, 0, none⟩) m cap, .int .i64 (i : Int)] w fun e w' => e = .returned (.tuple #[]) ∧
      Row w' g m (fun k => if k = i / 64 then ws (i / 64) ||| 2 ^ (i % 64) else ws k) ∧ Chg (fun k => k = g) w w' := by
  have hc := h.cell hi
  have hf := h.free (i / 64)
  have hx := h.bd hi
  have hr : i % 64 < 64 := Nat.mod_lt _ (by decide)
  have E := hide (shl_bit (ws (i / 64)) (i % 64) hx hr)
  have R := hide (h.set (i / 64) (ws (i / 64) ||| 2 ^ (i % 64)) (or_bd _ _ hx (pow_bd _ hr)))
  have G := hide (Chg.set w g (i / 64) (.int .u64 ((ws (i / 64) ||| 2 ^ (i % 64) : Nat) : Int)))
  have e1 : (0 : Int) ≤ (i : Int) / 64 := by omega
  have e2 : (i : Int) / 64 < (m : Int) := by omega
  have e3 : ((i : Int) / 64).toNat = i / 64 := by omega
  clear h
  go_enter Try.func41, Try.ntmps41
  go_wp2_with fail
  go_region
  go_wp2_with fail
  rw [E.out]
  go_end0
  exact ⟨rfl, R.out.chg (S := fun _ => False) (Chg.refl _ _).drew (fun h => h), G.out.drew⟩

/-- The words of both. -/
def orW (ws os : Nat → Nat) : Nat → Nat := fun q => ws q ||| os q

theorem row_fun {w : World} {g m : Nat} {ws vs : Nat → Nat} (h : Row w g m ws) (e : ∀ q, q < m → vs q = ws q) : Row w g m vs := by
  obtain ⟨c, h1, h2, h3⟩ := h
  exact ⟨c, h1, h2, fun q hq => by rw [e q hq]; exact h3 q hq⟩

theorem join_other (g o m ca cb : Nat) (hgo : g ≠ o) (ws os : Nat → Nat) (hm : m ≤ 100000) (w : World) (h : Row w g m ws) (ho : Row w o m os) :
    Calls Try.prog 42 #[.slice (some ⟨g, 0, none⟩) m ca, .slice (some ⟨o, 0, none⟩) m cb] w fun e w' => e = .returned (.tuple #[]) ∧ Row w' g m (orW ws os) ∧ Chg (fun k => k = g) w w' := by
  have Hh := hide h
  have Ho := hide ho
  clear h ho
  go_enter Try.func42, Try.ntmps42
  go_wp2_with fail
  go_loopw [7] (fun iv wr => ∃ k : Nat, k ≤ m ∧ iv = .int .i64 k ∧ Hid (Row wr g m (fun q => if q < k then ws q ||| os q else ws q)) ∧ Hid (Chg (fun b => b = g) w wr)) (fun iv _ => m - (intOf iv).toNat)
  case atStart => exact ⟨0, Nat.zero_le _, rfl, row_fun Hh.out (fun q _ => by simp), Chg.refl _ _⟩
  case round =>
    obtain ⟨k, hk, rfl, hR, hG⟩ := hrel
    by_cases hlt : k < m
    · have hkI : (k : Int) < (m : Int) := by omega
      have ho' := Ho.out.chg hG.out (fun e => hgo e.symm)
      have c0' := hR.out.cell hlt
      have f0 := hR.out.free k
      have b0' := hR.out.bd hlt
      simp only [Nat.lt_irrefl, if_false] at c0' b0'
      have c1 := ho'.cell hlt
      have b1 := ho'.bd hlt
      have hb := or_bd _ _ b0' b1
      have E := hide (u64_or_nat (ws k) (os k) b0' b1)
      have R := hide (row_fun (hR.out.set k (ws k ||| os k) hb) (vs := fun q => if q < k + 1 then ws q ||| os q else ws q) (fun q hq => by
        by_cases e : q = k
        · subst e; simp
        · by_cases h2 : q < k
          · simp [e, h2, show q < k + 1 by omega]
          · simp [e, h2, show ¬ q < k + 1 by omega]))
      have G := hide (hG.out.trans (Chg.set wr g k (.int .u64 ((ws k ||| os k : Nat) : Int))))
      have c0 : wr.cell? ⟨g, k, none⟩ = some (.int .u64 (ws k : Int)) := c0'
      clear c0' ho'
      go_wp2_with fail
      go_region
      go_wp2_with fail
      rw [E.out]
      go_roundw
      case rel => exact ⟨k + 1, by omega, by go_num, hide (R.out.chg (S := fun _ => False) (Chg.refl _ _).drew (fun h => h)), hide G.out.drew⟩
      case measure => simp [intOf]; omega
    · go_wp2_with fail
      go_end0
      exact ⟨rfl, row_fun hR.out (fun q hq => by simp [orW, show q < k by omega]), hG.out⟩

theorem join_self (g m ca cb : Nat) (ws : Nat → Nat) (hm : m ≤ 100000) (w : World) (h : Row w g m ws) :
    Calls Try.prog 42 #[.slice (some ⟨g, 0, none⟩) m ca, .slice (some ⟨g, 0, none⟩) m cb] w fun e w' => e = .returned (.tuple #[]) ∧ Row w' g m ws ∧ Chg (fun k => k = g) w w' := by
  have Hh := hide h
  clear h
  go_enter Try.func42, Try.ntmps42
  go_wp2_with fail
  go_loopw [7] (fun iv wr => ∃ k : Nat, k ≤ m ∧ iv = .int .i64 k ∧ Hid (Row wr g m ws) ∧ Hid (Chg (fun b => b = g) w wr)) (fun iv _ => m - (intOf iv).toNat)
  case atStart => exact ⟨0, Nat.zero_le _, rfl, Hh, Chg.refl _ _⟩
  case round =>
    obtain ⟨k, hk, rfl, hR, hG⟩ := hrel
    by_cases hlt : k < m
    · have hkI : (k : Int) < (m : Int) := by omega
      have c0 := hR.out.cell hlt
      have f0 := hR.out.free k
      have b0 := hR.out.bd hlt
      have E := hide (u64_or_nat (ws k) (ws k) b0 b0)
      have R := hide (row_fun (hR.out.set k (ws k ||| ws k) (or_bd _ _ b0 b0)) (vs := ws) (fun q hq => by
        by_cases e : q = k
        · subst e; simp
        · simp [e]))
      have G := hide (hG.out.trans (Chg.set wr g k (.int .u64 ((ws k ||| ws k : Nat) : Int))))
      go_wp2_with fail
      go_region
      go_wp2_with fail
      rw [E.out]
      go_roundw
      case rel => exact ⟨k + 1, by omega, by go_num, hide (R.out.chg (S := fun _ => False) (Chg.refl _ _).drew (fun h => h)), hide G.out.drew⟩
      case measure => simp [intOf]; omega
    · go_wp2_with fail
      go_end0
      exact ⟨rfl, hR.out, hG.out⟩

theorem bit_put (ws : Nat → Nat) (i j : Nat) : bitAt (fun k => if k = i / 64 then ws (i / 64) ||| 2 ^ (i % 64) else ws k) j = (decide (i = j) || bitAt ws j) := by
  unfold bitAt
  by_cases e : j / 64 = i / 64
  · simp only [e, if_true]
    rw [Nat.testBit_or, Nat.testBit_two_pow, Bool.or_comm]
    congr 1
    by_cases h : i = j
    · subst h; simp
    · have : ¬ i % 64 = j % 64 := fun h2 => h (by omega)
      simp [h, this]
  · have : ¬ i = j := fun h => e (by rw [h])
    simp [e, this]

theorem bit_join (ws os : Nat → Nat) (j : Nat) : bitAt (orW ws os) j = (bitAt ws j || bitAt os j) := by
  unfold bitAt orW
  exact Nat.testBit_or _ _ _

end Go.Proofs.Ytdcpcemihpkkaaa
