/- Contracts of lex's sign, first, skip, head, visible. -/
import Derived.Test.YtboeeaekhijboaaSpec
import Derived.Test.YtboeeaekhijboaaShelf
import Derived.Lib.IndexBytes
import Derived.WalkSpells
namespace Go.Proofs.Ytboeeaekhijboaa
open Go.RowKit

theorem flip {P : Program} {f : FuncId} {args : Array Value} {w : World} {v : Value} (h : Calls P f args w fun e w' => e = .returned v ∧ w' = w) :
    Calls P f args w fun e w' => e = .returned v ∧ w = w' := h.mono fun _ _ ⟨h1, h2⟩ => ⟨h1, h2.symm⟩

theorem bs_cons (s : ByteArray) (h : 0 < s.size) : s.data.toList = s[0] :: s.data.toList.drop 1 := by
  have := bs_get s 0 h
  simpa using this

theorem nonempty (s : ByteArray) (h : 0 < s.size) : s.toList.isEmpty = false ∧ ¬ s.toList = [] := by
  rw [Lib.toList_data]
  have e : s.data.toList ≠ [] := by
    intro e
    have h2 : s.data.toList.length = 0 := by rw [e]; rfl
    have h3 : s.data.toList.length = s.size := by simp
    omega
  exact ⟨by cases hx : s.data.toList with
    | nil => exact absurd hx e
    | cons a b => rfl, e⟩

theorem empty_of (s : ByteArray) (h : ¬ 0 < s.size) : s.toList.isEmpty = true ∧ s.toList = [] ∧ s.data.toList = [] := by
  have e : s.data.toList = [] := by
    apply List.eq_nil_of_length_eq_zero
    have h3 : s.data.toList.length = s.size := by simp
    omega
  rw [Lib.toList_data, e]
  exact ⟨rfl, rfl, rfl⟩

theorem sign_any (s : ByteArray) (w : World) :
    Calls Try.prog 102 #[.string s] w fun e w' => e = .returned (.int .i64 (signLen s.data.toList)) ∧ w = w' := by
  have hp := hide (flip (Try.strings_HasPrefix s ⟨#[45, 62]⟩ w))
  by_cases h0 : 0 < s.size
  · have ib := hide (flip (Try.strings_IndexByte ⟨#[40, 41, 92, 46, 44, 59, 58, 61, 62, 60, 91, 93, 123, 125, 33, 63, 64]⟩ (s[0].toNat : Int) w))
    have hi : (s[0].toNat : Int).toNat.toUInt8 = s[0] := by simp
    rw [hi] at ib
    have hib : Hid (Calls Try.prog 97 #[.string ⟨#[40, 41, 92, 46, 44, 59, 58, 61, 62, 60, 91, 93, 123, 125, 33, 63, 64]⟩, .int .u8 (s[0].toNat : Int)] w fun e w' => e = .returned (.int .i64 (Lib.indexByte signs s[0])) ∧ w = w') := ib.out
    have hix := indexByte_pos signs s[0]
    have e : signLen s.data.toList = if Lib.hasPrefix s.data.toList [45, 62] = true then 2 else if isSign s[0] = true then 1 else 0 := by
      have hc := bs_cons s h0
      rw [hc]
      rfl
    obtain ⟨n1, n2⟩ := nonempty s h0
    cases hpt : Lib.hasPrefix s.data.toList [45, 62]
    rotate_left
    · rw [hpt] at e
      have E : Hid (signLen s.data.toList = 2) := e
      have hp2 : Hid (Calls Try.prog 105 #[.string s, .string ⟨#[45, 62]⟩] w fun e w' => e = .returned (.bool true) ∧ w = w') := by
        have := hp.out
        rwa [show Lib.hasPrefix s.data.toList (ByteArray.mk #[45, 62]).data.toList = true from hpt] at this
      clear hp ib hib hi hix e hpt
      go_enter Try.func102, Try.ntmps102
      go_wp2_with fail
      refine hp2.out.mono ?_
      rintro e w' ⟨rfl, rfl⟩
      go_wp2_with fail
      go_ret
      exact ⟨ret_int (by rw [E.out]; rfl), rfl⟩
    · rw [hpt] at e
      have hp2 : Hid (Calls Try.prog 105 #[.string s, .string ⟨#[45, 62]⟩] w fun e w' => e = .returned (.bool false) ∧ w = w') := by
        have := hp.out
        rwa [show Lib.hasPrefix s.data.toList (ByteArray.mk #[45, 62]).data.toList = false from hpt] at this
      clear hp ib hi hpt
      by_cases h2 : isSign s[0] = true
      · have h3 : 0 ≤ Lib.indexByte signs s[0] := hix.2 h2
        rw [if_pos h2] at e
        have E : Hid (signLen s.data.toList = 1) := e
        clear e hix h2
        generalize Lib.indexByte signs s[0] = q at *
        go_enter Try.func102, Try.ntmps102
        go_wp2_with fail
        refine hp2.out.mono ?_
        rintro e w' ⟨rfl, rfl⟩
        go_wp2_with fail
        refine hib.out.mono ?_
        rintro e w' ⟨rfl, rfl⟩
        go_wp2_with fail
        go_ret
        exact ⟨ret_int (by rw [E.out]; rfl), rfl⟩
      · have h3 : ¬ 0 ≤ Lib.indexByte signs s[0] := fun h => h2 (hix.1 h)
        rw [if_neg h2] at e
        have E : Hid (signLen s.data.toList = 0) := e
        clear e hix h2
        generalize Lib.indexByte signs s[0] = q at *
        go_enter Try.func102, Try.ntmps102
        go_wp2_with fail
        refine hp2.out.mono ?_
        rintro e w' ⟨rfl, rfl⟩
        go_wp2_with fail
        refine hib.out.mono ?_
        rintro e w' ⟨rfl, rfl⟩
        go_wp2_with fail
        go_ret
        exact ⟨ret_int (by rw [E.out]; rfl), rfl⟩
  · obtain ⟨n1, n2, n3⟩ := empty_of s h0
    have E : Hid (signLen s.data.toList = 0) := by rw [n3]; rfl
    have hp2 : Hid (Calls Try.prog 105 #[.string s, .string ⟨#[45, 62]⟩] w fun e w' => e = .returned (.bool false) ∧ w = w') := by
      have := hp.out
      rw [n3] at this
      exact this
    clear hp n3
    go_enter Try.func102, Try.ntmps102
    go_wp2_with fail
    refine hp2.out.mono ?_
    rintro e w' ⟨rfl, rfl⟩
    go_wp2_with fail
    go_ret
    exact ⟨ret_int (by rw [E.out]; rfl), rfl⟩

theorem first_any (s : ByteArray) (h0 : 0 < s.size) (hl : s.size ≤ 9223372036854775807) (w : World) :
    Calls Try.prog 87 #[.string s] w fun e w' => e = .returned (.tuple #[.int .i64 (firstOf s.data.toList).1, .int .i64 (firstOf s.data.toList).2]) ∧ w = w' := by
  have e : firstOf s.data.toList = if isLetter s[0] = true then (1, runLen isInner s.data.toList) else if isDigit s[0] = true then (2, runLen isDigit s.data.toList) else (3, signLen s.data.toList) := by
    have hc := bs_cons s h0
    rw [hc]
    rfl
  have c1 := hide (letter_any s[0] w)
  have c2 := hide (digit_any s[0] w)
  have c3 := hide (run_inner s hl w)
  have c4 := hide (run_digit s hl w)
  have c5 := hide (sign_any s w)
  cases h1 : isLetter s[0]
  · cases h2 : isDigit s[0]
    · rw [h1, h2] at e
      rw [h1] at c1
      rw [h2] at c2
      have E : Hid (firstOf s.data.toList = (3, signLen s.data.toList)) := e
      clear e h1 h2
      go_enter Try.func87, Try.ntmps87
      go_wp2_with fail
      refine c1.out.mono ?_
      rintro e w' ⟨rfl, rfl⟩
      go_wp2_with fail
      refine c2.out.mono ?_
      rintro e w' ⟨rfl, rfl⟩
      go_wp2_with fail
      refine c5.out.mono ?_
      rintro e w' ⟨rfl, rfl⟩
      go_wp2_with fail
      go_ret2
      exact ⟨by rw [E.out]; rfl, rfl⟩
    · rw [h1, h2] at e
      rw [h1] at c1
      rw [h2] at c2
      have E : Hid (firstOf s.data.toList = (2, runLen isDigit s.data.toList)) := e
      clear e h1 h2
      go_enter Try.func87, Try.ntmps87
      go_wp2_with fail
      refine c1.out.mono ?_
      rintro e w' ⟨rfl, rfl⟩
      go_wp2_with fail
      refine c2.out.mono ?_
      rintro e w' ⟨rfl, rfl⟩
      go_wp2_with fail
      refine c4.out.mono ?_
      rintro e w' ⟨rfl, rfl⟩
      go_wp2_with fail
      go_ret2
      exact ⟨by rw [E.out]; rfl, rfl⟩
  · rw [h1] at e
    rw [h1] at c1
    have E : Hid (firstOf s.data.toList = (1, runLen isInner s.data.toList)) := e
    clear e h1
    go_enter Try.func87, Try.ntmps87
    go_wp2_with fail
    refine c1.out.mono ?_
    rintro e w' ⟨rfl, rfl⟩
    go_wp2_with fail
    refine c3.out.mono ?_
    rintro e w' ⟨rfl, rfl⟩
    go_wp2_with fail
    go_ret2
    exact ⟨by rw [E.out]; rfl, rfl⟩

theorem head_any (s : ByteArray) (hl : s.size ≤ 9223372036854775807) (w : World) :
    Calls Try.prog 89 #[.string s] w fun e w' => e = .returned (.string (headOf s)) ∧ w = w' := by
  have E : Hid (s.extract 0 (min (s.size : Int) 10).toNat = headOf s) := by
    unfold Hid headOf
    rw [show (min (s.size : Int) 10).toNat = min s.size 10 by omega]
  go_enter Try.func89, Try.ntmps89
  go_wp2_with fail
  go_ret
  rw [← E.out]
  exact ⟨rfl, rfl⟩

theorem visible_any (c : UInt8) (w : World) :
    Calls Try.prog 88 #[.int .u8 (c.toNat : Int)] w fun e w' => e = .returned (.string (vis c)) ∧ Below w.heap.size w w' := by
  by_cases h1 : (c.toNat : Int) < 33
  · have E : Hid (vis c = ⟨#[]⟩) := by unfold Hid vis; rw [if_pos (Or.inl (by omega))]
    go_enter Try.func88, Try.ntmps88
    go_wp2_with fail
    go_ret
    exact ⟨by rw [E.out]; rfl, Below.refl _ _⟩
  · by_cases h2 : (126 : Int) < c.toNat
    · have E : Hid (vis c = ⟨#[]⟩) := by unfold Hid vis; rw [if_pos (Or.inr (by omega))]
      go_enter Try.func88, Try.ntmps88
      go_wp2_with fail
      go_ret
      exact ⟨by rw [E.out]; rfl, Below.refl _ _⟩
    · have E : Hid (vis c = ⟨#[c]⟩) := by unfold Hid vis; rw [if_neg (by omega)]
      have cv : (convert 141 9 (.slice (some ⟨w.heap.size, 0, none⟩) 1 1)).run Try.prog (w.alloc (.cells #[.int .u8 (c.toNat : Int)] 5)) = .ok (.string ⟨#[c]⟩) (w.alloc (.cells #[.int .u8 (c.toNat : Int)] 5)) :=
        run_convert_bytes_back (P := Try.prog) (w.alloc (.cells #[.int .u8 (c.toNat : Int)] 5)) 141 9 5 ⟨w.heap.size, 0, none⟩ 1 [c] Try.underlying141 Try.underlying5 Try.underlying9 (by
          intro i hi
          have : i = 0 := by simp at hi; omega
          subst this
          simp [Addr.add])
      go_enter Try.func88, Try.ntmps88
      go_wp2_with fail
      go_ret
      exact ⟨by rw [E.out]; rfl, (Below.refl _ _).alloc (Nat.le_refl _) _⟩

theorem byte_beq (c d : UInt8) (z : Int) (hz : (d.toNat : Int) = z) : ((c.toNat : Int) == z) = (c == d) := by
  rw [← hz, Bool.eq_iff_iff]
  simp only [beq_iff_eq]
  constructor
  · intro h; exact UInt8.toNat_inj.1 (by omega)
  · intro h; rw [h]

theorem skip_at (s : ByteArray) (k : Nat) (h : k < s.size) :
    skipLen (s.data.toList.drop k) false = if isBlank s[k] = true then skipLen (s.data.toList.drop (k + 1)) false + 1 else if s[k] = 35 then skipLen (s.data.toList.drop k) false else 0 := by
  rw [bs_get s k h]
  simp only [skipLen]
  split
  · rfl
  · split
    · rfl
    · rfl

theorem skip_any (s : ByteArray) (hl : s.size ≤ 9223372036854775807) (w : World) :
    Calls Try.prog 86 #[.string s] w fun e w' => e = .returned (.int .i64 (skipLen s.data.toList false)) ∧ w = w' := by
  have hib := hide (fun k => flip (Try.strings_IndexByte (s.extract k s.size) 10 w))
  go_enter Try.func86, Try.ntmps86
  go_wp2_with fail
  go_loop [3] (fun i => ∃ k : Nat, k ≤ s.size ∧ i = .int .i64 k ∧ Hid (k + skipLen (s.data.toList.drop k) false = skipLen s.data.toList false)) (fun i => s.size - (intOf i).toNat)
  case atStart => exact ⟨0, Nat.zero_le _, rfl, by simp [Hid]⟩
  case round =>
    obtain ⟨k, hk, rfl, hr⟩ := hrel
    by_cases hlt : k < s.size
    · have hra := skip_at s k hlt
      cases hb : isBlank s[k]
      · rw [hb] at hra
        have hb2 := hb
        simp only [isBlank, Bool.or_eq_false_iff] at hb2
        obtain ⟨n1, n2, n3, n4⟩ := hb2
        have m1 : ((s[k].toNat : Int) == 32) = false := by rw [byte_beq _ 32 32 rfl]; exact n1
        have m2 : ((s[k].toNat : Int) == 9) = false := by rw [byte_beq _ 9 9 rfl]; exact n2
        have m3 : ((s[k].toNat : Int) == 10) = false := by rw [byte_beq _ 10 10 rfl]; exact n3
        have m4 : ((s[k].toNat : Int) == 13) = false := by rw [byte_beq _ 13 13 rfl]; exact n4
        clear n1 n2 n3 n4 hb
        by_cases h35 : s[k] = 35
        · have m5 : ((s[k].toNat : Int) == 35) = true := by rw [h35]; rfl
          have hdrop := bs_get s k hlt
          rw [h35] at hdrop
          have hio : Lib.indexByte (s.extract k s.size).data.toList (10 : Int).toNat.toUInt8 = Lib.indexByte (35 :: s.data.toList.drop (k + 1)) 10 := by
            rw [Lib.extract_to_end, hdrop]; rfl
          have hq := hide (hib.out k)
          rw [hio] at hq
          by_cases hneg : Lib.indexByte (35 :: s.data.toList.drop (k + 1)) 10 < 0
          · have e : skipLen s.data.toList false = s.size := by
              rw [← hr.out, hdrop, skip_hash_none _ hneg, ← hdrop]
              simp; omega
            have E := hide e
            clear hra h35 hdrop hio e hr
            generalize Lib.indexByte (35 :: s.data.toList.drop (k + 1)) 10 = q at *
            go_wp2_with fail
            refine hq.out.mono ?_
            rintro e w' ⟨rfl, rfl⟩
            go_wp2_with fail
            go_ret
            exact ⟨ret_int (by rw [E.out]), rfl⟩
          · obtain ⟨n, hn⟩ := Int.eq_ofNat_of_zero_le (show 0 ≤ Lib.indexByte (35 :: s.data.toList.drop (k + 1)) 10 by omega)
            obtain ⟨i1, i2, i3⟩ := skip_hash _ n hn
            have hlen : n + k < s.size := by
              rw [← hdrop] at i2
              simp at i2; omega
            have e : k + n + skipLen (s.data.toList.drop (k + n)) false = skipLen s.data.toList false := by
              rw [← hr.out, hdrop, i3, ← hdrop, List.drop_drop]; omega
            have E := hide e
            rw [hn] at hq hneg
            clear hra h35 hdrop hio e hr i2 i3 hn
            go_wp2_with fail
            refine hq.out.mono ?_
            rintro e w' ⟨rfl, rfl⟩
            go_wp2_with fail
            go_round
            case rel => exact ⟨k + n, by omega, by go_num, E⟩
            case measure => simp [intOf]; omega
        · have m5 : ((s[k].toNat : Int) == 35) = false := by rw [byte_beq _ 35 35 rfl]; simpa using h35
          have e : skipLen s.data.toList false = k := by rw [← hr.out, hra, if_neg (by decide), if_neg h35]; rfl
          have E := hide e
          clear hra h35 e hr
          go_wp2_with fail
          go_ret
          exact ⟨ret_int (by rw [E.out]), rfl⟩
      · rw [hb] at hra
        have e : k + 1 + skipLen (s.data.toList.drop (k + 1)) false = skipLen s.data.toList false := by rw [← hr.out, hra]; simp; omega
        have E := hide e
        simp only [isBlank, Bool.or_eq_true, beq_iff_eq] at hb
        have hcase : s[k] = 32 ∨ s[k] = 9 ∨ s[k] = 10 ∨ s[k] = 13 := hb
        clear hra hb e hr
        rcases hcase with h | h | h | h
        · have m0 : ((s[k].toNat : Int) == 32) = true := by rw [byte_beq _ 32 32 rfl, h]; rfl
          clear h
          go_wp2_with fail
          go_round
          case rel => exact ⟨k + 1, by omega, by go_num, E⟩
          case measure => simp [intOf]; omega
        · have m0 : ((s[k].toNat : Int) == 32) = false := by rw [byte_beq _ 32 32 rfl, h]; rfl
          have m1 : ((s[k].toNat : Int) == 9) = true := by rw [byte_beq _ 9 9 rfl, h]; rfl
          clear h
          go_wp2_with fail
          go_round
          case rel => exact ⟨k + 1, by omega, by go_num, E⟩
          case measure => simp [intOf]; omega
        · have m0 : ((s[k].toNat : Int) == 32) = false := by rw [byte_beq _ 32 32 rfl, h]; rfl
          have m1 : ((s[k].toNat : Int) == 9) = false := by rw [byte_beq _ 9 9 rfl, h]; rfl
          have m2 : ((s[k].toNat : Int) == 10) = true := by rw [byte_beq _ 10 10 rfl, h]; rfl
          clear h
          go_wp2_with fail
          go_round
          case rel => exact ⟨k + 1, by omega, by go_num, E⟩
          case measure => simp [intOf]; omega
        · have m0 : ((s[k].toNat : Int) == 32) = false := by rw [byte_beq _ 32 32 rfl, h]; rfl
          have m1 : ((s[k].toNat : Int) == 9) = false := by rw [byte_beq _ 9 9 rfl, h]; rfl
          have m2 : ((s[k].toNat : Int) == 10) = false := by rw [byte_beq _ 10 10 rfl, h]; rfl
          have m3 : ((s[k].toNat : Int) == 13) = true := by rw [byte_beq _ 13 13 rfl, h]; rfl
          clear h
          go_wp2_with fail
          go_round
          case rel => exact ⟨k + 1, by omega, by go_num, E⟩
          case measure => simp [intOf]; omega
    · have e : skipLen s.data.toList false = k := by
        rw [← hr.out, List.drop_eq_nil_of_le (by simp; omega)]; rfl
      have E := hide e
      clear e hr
      go_wp2_with fail
      go_ret
      exact ⟨ret_int (by rw [E.out]), rfl⟩
end Go.Proofs.Ytboeeaekhijboaa
