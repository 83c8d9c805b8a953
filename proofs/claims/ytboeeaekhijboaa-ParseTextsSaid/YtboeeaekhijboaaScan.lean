/- Layer 3's scanners: letter, digit, inner, run. -/
import Derived.Test.YtboeeaekhijboaaProg
import Derived.WalkKit
import Derived.Handy
import Derived.BigQuiet
namespace Go.Proofs.Ytboeeaekhijboaa
open Go.RowKit

theorem hide {p : Prop} (h : p) : Hid p := h
theorem ret_bool {a b : Bool} (h : a = b) : Ending.returned (.bool a) = .returned (.bool b) := by rw [h]
theorem ret_int {a b : Int} (h : a = b) : Ending.returned (.int .i64 a) = .returned (.int .i64 b) := by rw [h]

def isLetter (c : UInt8) : Bool := (decide (97 ≤ c.toNat) && decide (c.toNat ≤ 122)) || (decide (65 ≤ c.toNat) && decide (c.toNat ≤ 90))
def isDigit (c : UInt8) : Bool := decide (48 ≤ c.toNat) && decide (c.toNat ≤ 57)
def isInner (c : UInt8) : Bool := isLetter c || (isDigit c || (c.toNat == 95 || c.toNat == 39))

theorem letter_any (c : UInt8) (w : World) : Calls Try.prog 98 #[.int .u8 (c.toNat : Int)] w fun e w' => e = .returned (.bool (isLetter c)) ∧ w = w' := by
  by_cases h1 : (97 : Int) ≤ c.toNat
  · by_cases h2 : (c.toNat : Int) ≤ 122
    · have e : isLetter c = true := by simp [isLetter]; omega
      rw [e]
      go_enter Try.func98, Try.ntmps98
      go_wp2_with fail
      go_ret
      exact ⟨rfl, rfl⟩
    · have e : isLetter c = false := by simp [isLetter]; omega
      have h3 : ¬ (c.toNat : Int) ≤ 90 := by omega
      have h4 : (65 : Int) ≤ c.toNat := by omega
      rw [e]
      go_enter Try.func98, Try.ntmps98
      go_wp2_with fail
      go_ret
      exact ⟨rfl, rfl⟩
  · by_cases h2 : (65 : Int) ≤ c.toNat
    · by_cases h3 : (c.toNat : Int) ≤ 90
      · have e : isLetter c = true := by simp [isLetter]; omega
        rw [e]
        go_enter Try.func98, Try.ntmps98
        go_wp2_with fail
        go_ret
        exact ⟨rfl, rfl⟩
      · have e : isLetter c = false := by simp [isLetter]; omega
        rw [e]
        go_enter Try.func98, Try.ntmps98
        go_wp2_with fail
        go_ret
        exact ⟨rfl, rfl⟩
    · have e : isLetter c = false := by simp [isLetter]; omega
      rw [e]
      go_enter Try.func98, Try.ntmps98
      go_wp2_with fail
      go_ret
      exact ⟨rfl, rfl⟩

theorem digit_any (c : UInt8) (w : World) : Calls Try.prog 101 #[.int .u8 (c.toNat : Int)] w fun e w' => e = .returned (.bool (isDigit c)) ∧ w = w' := by
  by_cases h1 : (48 : Int) ≤ c.toNat
  · by_cases h2 : (c.toNat : Int) ≤ 57
    · have e : isDigit c = true := by simp [isDigit]; omega
      rw [e]
      go_enter Try.func101, Try.ntmps101
      go_wp2_with fail
      go_ret
      exact ⟨rfl, rfl⟩
    · have e : isDigit c = false := by simp [isDigit]; omega
      rw [e]
      go_enter Try.func101, Try.ntmps101
      go_wp2_with fail
      go_ret
      exact ⟨rfl, rfl⟩
  · have e : isDigit c = false := by simp [isDigit]; omega
    rw [e]
    go_enter Try.func101, Try.ntmps101
    go_wp2_with fail
    go_ret
    exact ⟨rfl, rfl⟩

theorem inner_any (c : UInt8) (w : World) : Calls Try.prog 100 #[.int .u8 (c.toNat : Int)] w fun e w' => e = .returned (.bool (isInner c)) ∧ w = w' := by
  have c1 := hide (letter_any c w)
  have c2 := hide (digit_any c w)
  cases h1 : isLetter c
  · cases h2 : isDigit c
    · have e : isInner c = (c.toNat == 95 || c.toNat == 39) := by simp [isInner, h1, h2]
      rw [h1] at c1
      rw [h2] at c2
      clear h1 h2
      cases h3 : ((c.toNat : Int) == 95)
      rotate_left
      · have e2 : isInner c = true := by rw [e]; have := beq_iff_eq.1 h3; simp; omega
        rw [e2]
        clear e e2
        go_enter Try.func100, Try.ntmps100
        go_wp2_with fail
        refine c1.out.mono ?_
        rintro e w' ⟨rfl, rfl⟩
        go_wp2_with fail
        refine c2.out.mono ?_
        rintro e w' ⟨rfl, rfl⟩
        go_wp2_with fail
        go_ret
        exact ⟨rfl, rfl⟩
      · have h3' := beq_eq_false_iff_ne.1 h3
        cases h4 : ((c.toNat : Int) == 39)
        rotate_left
        · have e2 : isInner c = true := by rw [e]; have := beq_iff_eq.1 h4; simp; omega
          rw [e2]
          clear e e2 h3'
          go_enter Try.func100, Try.ntmps100
          go_wp2_with fail
          refine c1.out.mono ?_
          rintro e w' ⟨rfl, rfl⟩
          go_wp2_with fail
          refine c2.out.mono ?_
          rintro e w' ⟨rfl, rfl⟩
          go_wp2_with fail
          go_ret
          exact ⟨rfl, rfl⟩
        · have e2 : isInner c = false := by rw [e]; have := beq_eq_false_iff_ne.1 h4; simp; omega
          rw [e2]
          clear e e2 h3'
          go_enter Try.func100, Try.ntmps100
          go_wp2_with fail
          refine c1.out.mono ?_
          rintro e w' ⟨rfl, rfl⟩
          go_wp2_with fail
          refine c2.out.mono ?_
          rintro e w' ⟨rfl, rfl⟩
          go_wp2_with fail
          go_ret
          exact ⟨rfl, rfl⟩
    · have e : isInner c = true := by simp [isInner, h1, h2]
      rw [e]
      rw [h1] at c1
      rw [h2] at c2
      clear e h1 h2
      go_enter Try.func100, Try.ntmps100
      go_wp2_with fail
      refine c1.out.mono ?_
      rintro e w' ⟨rfl, rfl⟩
      go_wp2_with fail
      refine c2.out.mono ?_
      rintro e w' ⟨rfl, rfl⟩
      go_wp2_with fail
      go_ret
      exact ⟨rfl, rfl⟩
  · have e : isInner c = true := by simp [isInner, h1]
    rw [e]
    rw [h1] at c1
    clear e h1
    go_enter Try.func100, Try.ntmps100
    go_wp2_with fail
    refine c1.out.mono ?_
    rintro e w' ⟨rfl, rfl⟩
    go_wp2_with fail
    go_ret
    exact ⟨rfl, rfl⟩

/-- the length of the longest front of which each byte is such -/
def runLen (p : UInt8 → Bool) : List UInt8 → Nat
  | [] => 0
  | c :: r => if p c = true then runLen p r + 1 else 0

theorem runLen_le (p : UInt8 → Bool) (l : List UInt8) : runLen p l ≤ l.length := by
  induction l with
  | nil => simp [runLen]
  | cons c r ih => simp only [runLen]; split <;> simp; omega

theorem bs_get (s : ByteArray) (k : Nat) (h : k < s.size) : s.data.toList.drop k = s[k] :: s.data.toList.drop (k + 1) := by
  have : k < s.data.toList.length := by simpa using h
  rw [List.drop_eq_getElem_cons this]
  rfl

theorem runLen_at (p : UInt8 → Bool) (s : ByteArray) (k : Nat) (h : k < s.size) :
    runLen p (s.data.toList.drop k) = if p s[k] = true then runLen p (s.data.toList.drop (k + 1)) + 1 else 0 := by
  rw [bs_get s k h]; rfl

theorem run_inner (s : ByteArray) (hl : s.size ≤ 9223372036854775807) (w : World) :
    Calls Try.prog 99 #[.string s, .func (.func 100) #[] #[]] w fun e w' => e = .returned (.int .i64 (runLen isInner s.data.toList)) ∧ w = w' := by
  go_enter Try.func99, Try.ntmps99
  go_wp2_with fail
  go_loop [5] (fun i => ∃ k : Nat, k ≤ s.size ∧ i = .int .i64 k ∧ Hid (k + runLen isInner (s.data.toList.drop k) = runLen isInner s.data.toList)) (fun i => s.size - (intOf i).toNat)
  case atStart => exact ⟨0, Nat.zero_le _, rfl, by simp [Hid]⟩
  case round =>
    obtain ⟨k, hk, rfl, hr⟩ := hrel
    by_cases hlt : k < s.size
    · have hra := runLen_at isInner s k hlt
      have ci := hide (inner_any s[k] w)
      cases hb : isInner s[k]
      · have e : runLen isInner s.data.toList = k := by rw [← hr.out, hra, hb]; simp
        have E := hide e
        rw [hb] at ci
        clear hra hb e hr
        go_wp2_with fail
        refine ci.out.mono ?_
        rintro e w' ⟨rfl, rfl⟩
        go_wp2_with fail
        go_ret
        exact ⟨ret_int (by rw [E.out]), rfl⟩
      · have e : k + 1 + runLen isInner (s.data.toList.drop (k + 1)) = runLen isInner s.data.toList := by rw [← hr.out, hra, hb]; simp; omega
        have E := hide e
        rw [hb] at ci
        clear hra hb e hr
        go_wp2_with fail
        refine ci.out.mono ?_
        rintro e w' ⟨rfl, rfl⟩
        go_wp2_with fail
        go_round
        case rel => exact ⟨k + 1, by omega, by go_num, E⟩
        case measure => simp [intOf]; omega
    · have e : runLen isInner s.data.toList = k := by
        rw [← hr.out, List.drop_eq_nil_of_le (by simp; omega)]; rfl
      have E := hide e
      clear e hr
      go_wp2_with fail
      go_ret
      exact ⟨ret_int (by rw [E.out]), rfl⟩

theorem run_digit (s : ByteArray) (hl : s.size ≤ 9223372036854775807) (w : World) :
    Calls Try.prog 99 #[.string s, .func (.func 101) #[] #[]] w fun e w' => e = .returned (.int .i64 (runLen isDigit s.data.toList)) ∧ w = w' := by
  go_enter Try.func99, Try.ntmps99
  go_wp2_with fail
  go_loop [5] (fun i => ∃ k : Nat, k ≤ s.size ∧ i = .int .i64 k ∧ Hid (k + runLen isDigit (s.data.toList.drop k) = runLen isDigit s.data.toList)) (fun i => s.size - (intOf i).toNat)
  case atStart => exact ⟨0, Nat.zero_le _, rfl, by simp [Hid]⟩
  case round =>
    obtain ⟨k, hk, rfl, hr⟩ := hrel
    by_cases hlt : k < s.size
    · have hra := runLen_at isDigit s k hlt
      have ci := hide (digit_any s[k] w)
      cases hb : isDigit s[k]
      · have e : runLen isDigit s.data.toList = k := by rw [← hr.out, hra, hb]; simp
        have E := hide e
        rw [hb] at ci
        clear hra hb e hr
        go_wp2_with fail
        refine ci.out.mono ?_
        rintro e w' ⟨rfl, rfl⟩
        go_wp2_with fail
        go_ret
        exact ⟨ret_int (by rw [E.out]), rfl⟩
      · have e : k + 1 + runLen isDigit (s.data.toList.drop (k + 1)) = runLen isDigit s.data.toList := by rw [← hr.out, hra, hb]; simp; omega
        have E := hide e
        rw [hb] at ci
        clear hra hb e hr
        go_wp2_with fail
        refine ci.out.mono ?_
        rintro e w' ⟨rfl, rfl⟩
        go_wp2_with fail
        go_round
        case rel => exact ⟨k + 1, by omega, by go_num, E⟩
        case measure => simp [intOf]; omega
    · have e : runLen isDigit s.data.toList = k := by
        rw [← hr.out, List.drop_eq_nil_of_le (by simp; omega)]; rfl
      have E := hide e
      clear e hr
      go_wp2_with fail
      go_ret
      exact ⟨ret_int (by rw [E.out]), rfl⟩
end Go.Proofs.Ytboeeaekhijboaa
