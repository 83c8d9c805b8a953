/- filigreeref03.Split. -/
import Derived.Test.YtboeeaekhijboaaSplit
import Derived.Deep.RegionHeld3
import Derived.Lib.PathFns
namespace Go.Proofs.Ytboeeaekhijboaa
open Go.RowKit
set_option linter.unusedVariables false

theorem info119 : (Try.prog.info? 119).map (fun i => (i.zero, i.size, i.bytes)) = some (some (.agg #[.int .i64 0, .string ⟨#[]⟩, .int .i64 0]), 3, 32) := by kernel_rfl

theorem lexG_same (s : ByteArray) (f k k2 : Nat) (b b2 : Bool) (h : k + skipLen (s.data.toList.drop k) b = k2 + skipLen (s.data.toList.drop k2) b2) : lexG s f k b = lexG s f k2 b2 := by
 cases f with
 | zero => rfl
 | succ f => simp only [lexG, h]

theorem skip_true (s : ByteArray) (k : Nat) (h : k < s.size) : k + skipLen (s.data.toList.drop k) true = (k + 1) + skipLen (s.data.toList.drop (k + 1)) (s[k] != 10) := by
 rw [bs_get s k h]
 by_cases hc : s[k] = 10
 ·
  have : (s[k] != 10) = false := by simp [hc]
  rw [this]
  simp only [skipLen, if_pos hc]
  omega
 ·
  have : (s[k] != 10) = true := by simp [hc]
  rw [this]
  simp only [skipLen, if_neg hc]
  omega
theorem skip_blank (s : ByteArray) (k : Nat) (h : k < s.size) (hb : isBlank s[k] = true) : k + skipLen (s.data.toList.drop k) false = (k + 1) + skipLen (s.data.toList.drop (k + 1)) false := by
 rw [bs_get s k h]
 simp only [skipLen, if_pos hb]
 omega
theorem skip_sharp (s : ByteArray) (k : Nat) (h : k < s.size) (hb : s[k] = 35) : k + skipLen (s.data.toList.drop k) false = (k + 1) + skipLen (s.data.toList.drop (k + 1)) true := by
 rw [bs_get s k h]
 simp only [skipLen, hb]
 rw [if_neg (by decide), if_pos trivial]
 omega
theorem skip_none (s : ByteArray) (k : Nat) (h : k < s.size) (hb : isBlank s[k] = false) (hb2 : s[k] ≠ 35) : skipLen (s.data.toList.drop k) false = 0 := by
 rw [bs_get s k h]
 simp only [skipLen]
 rw [if_neg (by rw [hb]; decide), if_neg hb2]

def outR (s : ByteArray) (T : List Tok × Option Flt) (v : Value) (base : Nat) (w' : World) : Value × Prop :=
 match T.2 with
 | none => (.tuple #[v, .agg #[.int .i64 0, .int .i64 0, .int .i64 0, .string ⟨#[]⟩]], w'.ownsRow base 119 3 v T.1.length (cellsOf T.1))
 | some x => (.tuple #[.slice none 0 0, .agg #[.int .i64 x.1, .int .i64 (markOf (s.data.toList.take x.2.1)).1, .int .i64 (markOf (s.data.toList.take x.2.1)).2, .string x.2.2]], True)
def SplitOutR (s : ByteArray) (base : Nat) (e : Ending) (w' : World) : Prop :=
 ∃ v, e = .returned (outR s (lexG s (s.size + 1) 0 false) v base w').1 ∧ (outR s (lexG s (s.size + 1) 0 false) v base w').2
theorem splitR_done (s : ByteArray) (base : Nat) (w' : World) (v : Value) (acc : List Tok) (hT : lexG s (s.size + 1) 0 false = (acc, none)) (hown : w'.ownsRow base 119 3 v acc.length (cellsOf acc)) :
  SplitOutR s base (.returned (.tuple #[v, .agg #[.int .i64 0, .int .i64 0, .int .i64 0, .string ⟨#[]⟩]])) w' := by
 refine ⟨v, ?_⟩
 rw [hT]
 exact ⟨rfl, hown⟩
theorem splitR_fault (s : ByteArray) (base : Nat) (w' : World) (acc : List Tok) (c : Int) (k : Nat) (word : ByteArray) (hT : lexG s (s.size + 1) 0 false = (acc, some (c, k, word))) :
  SplitOutR s base (.returned (.tuple #[.slice none 0 0, .agg #[.int .i64 c, .int .i64 (markOf (s.data.toList.take k)).1, .int .i64 (markOf (s.data.toList.take k)).2, .string word]])) w' := by
 refine ⟨.slice none 0 0, ?_⟩
 rw [hT]
 exact ⟨rfl, trivial⟩

theorem prefix_iff (c : UInt8) (r : List UInt8) : Lib.hasPrefix (c :: r) [45, 62] = true ↔ c = 45 ∧ r.head? = some 62 := by
 cases r with
 | nil => simp [Lib.hasPrefix, List.isPrefixOf]
 | cons d t =>
   simp only [Lib.hasPrefix, List.isPrefixOf, List.head?_cons, Bool.and_true, Bool.and_eq_true, beq_iff_eq, Option.some.injEq]
   constructor
   ·
    rintro ⟨h1, h2⟩; exact ⟨h1.symm, h2.symm⟩
   ·
    rintro ⟨h1, h2⟩; exact ⟨h1.symm, h2.symm⟩

theorem head_at (s : ByteArray) (k : Nat) : (s.data.toList.drop k).head? = if h : k < s.size then some s[k] else none := by
 by_cases h : k < s.size
 ·
  rw [bs_get s k h, dif_pos h]; rfl
 ·
  rw [List.drop_eq_nil_of_le (by simp; omega), dif_neg h]; rfl

theorem ext_one (s : ByteArray) (k : Nat) (h : k < s.size) : s.extract k (k + 1) = ⟨#[s[k]]⟩ := by
 apply ByteArray.ext
 apply Array.toList_inj.1
 have : (s.extract k (k + 1)).data.toList = (s.data.toList.drop k).take 1 := by simp [List.take_drop]
 rw [this, bs_get s k h]
 rfl

theorem refHead (s : ByteArray) (hl : s.size ≤ 9223372036854775807) (w : World) :
  Calls Try.prog 66 #[.string s] w fun e w' => e = .returned (.string (headOf s)) ∧ w = w' := by
 by_cases h : s.size ≤ 10
 ·
  have E : Hid (headOf s = s) := by unfold Hid headOf; rw [Nat.min_eq_left h]; exact Lib.Pa.extract_all s
  go_enter Try.func66, Try.ntmps66
  go_wp2_with fail
  go_ret
  rw [E.out]
  exact ⟨rfl, rfl⟩
 ·
  have E : Hid (headOf s = s.extract 0 10) := by unfold Hid headOf; rw [Nat.min_eq_right (by omega)]
  go_enter Try.func66, Try.ntmps66
  go_wp2_with fail
  go_ret
  rw [E.out]
  exact ⟨rfl, rfl⟩

theorem among_blank (c : UInt8) (w : World) : Calls Try.prog 61 #[.int .u8 (c.toNat : Int), .string ⟨#[32, 9, 10, 13, 35]⟩] w fun e w' => e = .returned (.bool (isBlank c || c == 35)) ∧ w = w' :=
 (among_any c ⟨#[32, 9, 10, 13, 35]⟩ (by decide) w).mono fun _ _ ⟨h1, h2⟩ => ⟨by rw [h1]; exact ret_bool (blanks_eq c), h2⟩
theorem among_sign (c : UInt8) (w : World) : Calls Try.prog 61 #[.int .u8 (c.toNat : Int), .string ⟨#[40, 41, 92, 46, 44, 59, 58, 61, 62, 60, 91, 93, 123, 125, 33, 63, 64]⟩] w fun e w' => e = .returned (.bool (isSign c)) ∧ w = w' :=
 (among_any c ⟨#[40, 41, 92, 46, 44, 59, 58, 61, 62, 60, 91, 93, 123, 125, 33, 63, 64]⟩ (by decide) w).mono fun _ _ ⟨h1, h2⟩ => ⟨by rw [h1]; rfl, h2⟩

set_option maxRecDepth 100000 in
set_option maxHeartbeats 4000000 in
theorem refSplit_any (s : ByteArray) (hs : s.size ≤ 20000) (w : World) :
  Calls Try.prog 35 #[.string s] w fun e w' => SplitOutR s (w.heap.size + 1) e w' ∧ Below w.heap.size w w' := by
 go_enter Try.func35, Try.ntmps35
 go_wp2_with fail
 have a0 := blk_new w (Obj.cells #[Value.int IntKind.i64 0, Value.int IntKind.i64 0, Value.int IntKind.i64 0, Value.string ⟨#[]⟩] 33)
 have hsz : (w.alloc (Obj.cells #[Value.int IntKind.i64 0, Value.int IntKind.i64 0, Value.int IntKind.i64 0, Value.string ⟨#[]⟩] 33)).heap.size = w.heap.size + 1 := by simp
 have hB0 : Below w.heap.size w (w.alloc (Obj.cells #[Value.int IntKind.i64 0, Value.int IntKind.i64 0, Value.int IntKind.i64 0, Value.string ⟨#[]⟩] 33)) := (Below.refl _ w).alloc (Nat.le_refl _) _
 obtain ⟨W0, hW0⟩ : ∃ W0, (w.alloc (Obj.cells #[Value.int IntKind.i64 0, Value.int IntKind.i64 0, Value.int IntKind.i64 0, Value.string ⟨#[]⟩] 33)) = W0 := ⟨_, rfl⟩
 rw [hW0] at a0 hsz hB0 ⊢
 clear hW0
 generalize hB : w.heap.size = B at *
 have EB := hide hB
 have A0 := hide a0
 have HB := hide hB0
 have HS := hide hsz
 clear hB a0 hB0 hsz
 obtain ⟨T, hT⟩ : ∃ T, T = lexG s (s.size + 1) 0 false := ⟨_, rfl⟩
 have HT := hide hT
 clear hT
 go_loopw [4, 5, 6] (fun l r i wr => ∃ (k f : Nat) (acc : List Tok) (b : Bool) (v : Value), l = v ∧ k ≤ s.size ∧ s.size < k + f ∧ acc.length ≤ k ∧ r = .bool b ∧ i = .int .i64 k ∧ Hid (wr.heap[B]? = some (.cells #[.int .i64 0, .int .i64 0, .int .i64 0, .string ⟨#[]⟩] 33)) ∧
   Hid (wr.ownsRow (B + 1) 119 3 v acc.length (cellsOf acc)) ∧ Hid (Below B w wr) ∧ B + 1 ≤ wr.heap.size ∧ Hid (T = (acc ++ (lexG s f k b).1, (lexG s f k b).2)))
  (fun _ _ i _ => s.size + 1 - (intOf i).toNat)
 case atStart => exact ⟨0, s.size + 1, [], false, .slice none 0 0, rfl, Nat.zero_le _, by omega, Nat.le_refl _, rfl, rfl, A0.out, World.ownsRow_nil _ _ _ _, HB.out, by rw [HS.out]; omega, by rw [HT.out]; rfl⟩
 case round =>
  obtain ⟨k, f, acc, b, v, rfl, hk, hf, hal, rfl, rfl, b0, hown, hB, hsz, hTT⟩ := hrel
  obtain ⟨f, rfl⟩ : ∃ g, f = g + 1 := ⟨f - 1, by omega⟩
  by_cases hlt : k < s.size
  ·
   have hlI : (k : Int) < (s.size : Int) := by omega
   cases b
   rotate_left
   ·
    have hstep := skip_true s k hlt
    by_cases h10 : s[k] = 10
    ·
     have e10 : ((s[k].toNat : Int) != 10) = false := by rw [bne_eq_false_iff_eq, h10]; rfl
     have e11 : (s[k] != 10) = false := by simp [h10]
     rw [e11] at hstep
     have hst : Hid (T = (acc ++ (lexG s (f + 1) (k + 1) false).1, (lexG s (f + 1) (k + 1) false).2)) := by
      have h2 := hTT.out
      rw [lexG_same s (f + 1) k (k + 1) _ false hstep] at h2
      exact h2
     have Hst := hst
     clear hst
     clear h10 e11
     clear hstep
     go_wp2_with fail
     go_roundw
     case rel => exact ⟨k + 1, f + 1, acc, false, _, rfl, by omega, by omega, by omega, rfl, by go_num, b0, hown, hB, hsz, Hst⟩
     case measure => simp [intOf]; omega
    ·
     have e10 : ((s[k].toNat : Int) != 10) = true := by
      have := byte_beq s[k] 10 10 rfl
      rw [bne, this]; simpa using h10
     have e11 : (s[k] != 10) = true := by simp [h10]
     rw [e11] at hstep
     have hst : Hid (T = (acc ++ (lexG s (f + 1) (k + 1) true).1, (lexG s (f + 1) (k + 1) true).2)) := by
      have h2 := hTT.out
      rw [lexG_same s (f + 1) k (k + 1) _ true hstep] at h2
      exact h2
     have Hst := hst
     clear hst
     clear h10 e11
     clear hstep
     go_wp2_with fail
     go_roundw
     case rel => exact ⟨k + 1, f + 1, acc, true, _, rfl, by omega, by omega, by omega, rfl, by go_num, b0, hown, hB, hsz, Hst⟩
     case measure => simp [intOf]; omega
   ·
    have ab := hide (fun w => among_blank s[k] w)
    by_cases h35 : s[k] = 35
    ·
     have hstep := skip_sharp s k hlt h35
     have e10 : ((s[k].toNat : Int) != 10) = true := by rw [h35]; rfl
     have e35 : ((s[k].toNat : Int) == 35) = true := by rw [h35]; rfl
     have ez : (isBlank s[k] || s[k] == 35) = true := by rw [h35]; rfl
     rw [ez] at ab
     have hst : Hid (T = (acc ++ (lexG s (f + 1) (k + 1) true).1, (lexG s (f + 1) (k + 1) true).2)) := by
      have h2 := hTT.out
      rw [lexG_same s (f + 1) k (k + 1) _ true hstep] at h2
      exact h2
     have Hst := hst
     clear hst
     clear h35 ez hstep
     go_wp2_with fail
     refine (ab.out _).mono ?_
     rintro e w9 ⟨rfl, rfl⟩
     go_wp2_with fail
     go_roundw
     case rel => exact ⟨k + 1, f + 1, acc, true, _, rfl, by omega, by omega, by omega, rfl, by go_num, b0, hown, hB, hsz, Hst⟩
     case measure => simp [intOf]; omega
    ·
     have e35 : ((s[k].toNat : Int) == 35) = false := by rw [byte_beq s[k] 35 35 rfl]; simpa using h35
     have e36 : (s[k] == 35) = false := by simpa using h35
     cases hbl : isBlank s[k]
     rotate_left
     ·
      have hstep := skip_blank s k hlt hbl
      rw [hbl, Bool.true_or] at ab
      have hst : Hid (T = (acc ++ (lexG s (f + 1) (k + 1) false).1, (lexG s (f + 1) (k + 1) false).2)) := by
       have h2 := hTT.out
       rw [lexG_same s (f + 1) k (k + 1) _ false hstep] at h2
       exact h2
      have Hst := hst
      clear hst
      clear h35 hstep hbl
      cases h10 : ((s[k].toNat : Int) != 10)
      ·
       go_wp2_with fail
       refine (ab.out _).mono ?_
       rintro e w9 ⟨rfl, rfl⟩
       go_wp2_with fail
       go_roundw
       case rel => exact ⟨k + 1, f + 1, acc, false, _, rfl, by omega, by omega, by omega, rfl, by go_num, b0, hown, hB, hsz, Hst⟩
       case measure => simp [intOf]; omega
      ·
       go_wp2_with fail
       refine (ab.out _).mono ?_
       rintro e w9 ⟨rfl, rfl⟩
       go_wp2_with fail
       go_roundw
       case rel => exact ⟨k + 1, f + 1, acc, false, _, rfl, by omega, by omega, by omega, rfl, by go_num, b0, hown, hB, hsz, Hst⟩
       case measure => simp [intOf]; omega
     ·
      rw [hbl, e36] at ab
      have hsk0 := skip_none s k hlt hbl h35
      have hka : k + skipLen (s.data.toList.drop k) false = k := by omega
      have hend : k ≠ s.size := by omega
      clear hsk0
      obtain ⟨i0, hi0, hz0, hz1, hz2⟩ := info_parts info119
      have hbs := bs_get s k hlt
      have rl := hide (fun w => refLetter s[k] w)
      have rd := hide (fun w => refDigit s[k] w)
      have ro := hide (fun w => refOf s (by omega) k (by omega) w)
      obtain ⟨mj, hmj⟩ : ∃ mj, markOf (s.data.toList.take k) = mj := ⟨_, rfl⟩
      have MJ := hide hmj
      rw [hmj] at ro
      clear hmj
      obtain ⟨m1, m2⟩ := mj
      cases hL : isLetter s[k]
      ·
       cases hD : isDigit s[k]
       ·
        rw [hL] at rl
        rw [hD] at rd
        have hfirst : firstOf (s.data.toList.drop k) = (3, if Lib.hasPrefix (s[k] :: s.data.toList.drop (k + 1)) [45, 62] = true then 2 else if isSign s[k] = true then 1 else 0) := by
         rw [hbs]; simp only [firstOf, signLen]; rw [if_neg (by rw [hL]; decide), if_neg (by rw [hD]; decide)]
        have am := hide (fun w => among_sign s[k] w)
        have hpi := prefix_iff s[k] (s.data.toList.drop (k + 1))
        rw [head_at] at hpi
        clear hbs hL hD
        by_cases h45 : s[k] = 45
        ·
         have hns : isSign s[k] = false := by rw [h45]; decide
         have e45 : ((s[k].toNat : Int) == 45) = true := by rw [h45]; rfl
         by_cases hk1 : k + 1 < s.size
         ·
          by_cases h62 : s[k + 1] = 62
          ·
           have hpp : Lib.hasPrefix (s[k] :: s.data.toList.drop (k + 1)) [45, 62] = true := hpi.2 ⟨h45, by rw [dif_pos hk1, h62]⟩
           rw [if_pos hpp] at hfirst
           have hT2 : Hid (T = ((acc ++ [(3, s.extract k (k + 2), k)]) ++ (lexG s f (k + 2) false).1, (lexG s f (k + 2) false).2)) := by
            have h1 := lexG_tok s f k false k 2 hka hend (by rw [hfirst]) (by omega) (by rw [hfirst]; rfl)
            have h2 := hTT.out
            rw [h1, hfirst] at h2
            unfold Hid
            rw [h2]
            simp
           clear hfirst
           have hk1I : (k : Int) + 1 < (s.size : Int) := by omega
           have e62 : ((s[k + 1].toNat : Int) == 62) = true := by rw [h62]; rfl
           clear h45 h62 hpp hpi hns am
           go_wp2_with fail
           refine (ab.out _).mono ?_
           rintro e w9 ⟨rfl, rfl⟩
           go_wp2_with fail
           refine (rl.out _).mono ?_
           rintro e w9 ⟨rfl, rfl⟩
           go_wp2_with fail
           refine (rd.out _).mono ?_
           rintro e w9 ⟨rfl, rfl⟩
           go_wp2_with (at_builtin; refine wpList_append_own _ rfl _ _ 83 rfl (B + 1) 119 i0 (.agg #[.int .i64 0, .string ⟨#[]⟩, .int .i64 0]) 3 32 Try.underlying83 hi0 hz0 hz1 hz2 rfl (by decide) _ acc.length (cellsOf acc) rfl (hown.out.alloc _) ⟨wr.heap.size, 0, none⟩ 1 1 [.int .i64 3, .string (s.extract k (k + 2)), .int .i64 k] rfl rfl (World.news_of_block (cs := #[.int .i64 3, .string (s.extract k (k + 2)), .int .i64 k]) (t := 119) (fr := (0, 0)) (heap_alloc_new wr _)) (by simp [Value.oneCell']) (by simp [maxLen]; omega) (by omega) (by simp; omega) ?_; intro v' w1 hown1 hgrow _)
           have R0 : Hid (w1.heap[B]? = some (.cells #[.int .i64 0, .int .i64 0, .int .i64 0, .string ⟨#[]⟩] 33)) := (hgrow.block B (by simp; omega) (fun e => by have := (hown.out.lt _ e.symm).1; omega)).trans (blk_alloc b0.out)
           have RB : Hid (Below B w w1) := (hB.out.alloc (by omega) _).grown hgrow (by simp; omega) (fun r e => by have := (hown.out.lt _ e).1; omega)
           have RS : B + 1 ≤ w1.heap.size := by have := hgrow.size; simp at this; omega
           have RO := hide hown1
           clear hown1 hgrow
           go_wp2_with fail
           go_roundw
           case rel => exact ⟨k + 2, f, acc ++ [(3, s.extract k (k + 2), k)], false, _, rfl, by omega, by omega, by simp; omega, rfl, by go_num, R0, by
             unfold Hid
             rw [cellsOf_snoc, List.length_append]
             exact RO.out, RB, RS, hT2⟩
           case measure => simp [intOf]; omega
          ·
           have hpp : ¬ Lib.hasPrefix (s[k] :: s.data.toList.drop (k + 1)) [45, 62] = true := fun h => by have := (hpi.1 h).2; rw [dif_pos hk1] at this; exact h62 (by injection this)
           rw [if_neg hpp] at hfirst
           clear hpp
           rw [if_neg (by rw [hns]; decide)] at hfirst
           rw [hns] at am
           have hk1I : (k : Int) + 1 < (s.size : Int) := by omega
           have e62 : ((s[k + 1].toNat : Int) == 62) = false := by rw [byte_beq s[k + 1] 62 62 rfl]; simpa using h62
           clear h45 h62 hns
           have hTe0 : lexG s (s.size + 1) 0 false = (acc, some (3, k, vis s[k])) := by
            have h1 := lexG_form s f k false k hka hend (by rw [hfirst])
            have h2 := hTT.out
            rw [h1] at h2
            rw [← HT.out, h2, bs_get s k hlt]
            simp [visHead]
           clear hfirst hpi
           by_cases v1 : (s[k].toNat : Int) < 33
           ·
            have v2 : ¬ (32 : Int) < (s[k].toNat : Int) := by omega
            have hTe : Hid (lexG s (s.size + 1) 0 false = (acc, some (3, k, ⟨#[]⟩))) := by
             have : vis s[k] = ⟨#[]⟩ := by unfold vis; rw [if_pos (Or.inl (by omega))]
             rw [this] at hTe0; exact hTe0
            clear hTe0 v1
            go_wp2_with fail
            refine (ab.out _).mono ?_
            rintro e w9 ⟨rfl, rfl⟩
            go_wp2_with fail
            refine (rl.out _).mono ?_
            rintro e w9 ⟨rfl, rfl⟩
            go_wp2_with fail
            refine (rd.out _).mono ?_
            rintro e w9 ⟨rfl, rfl⟩
            go_wp2_with fail
            refine (am.out _).mono ?_
            rintro e w9 ⟨rfl, rfl⟩
            go_wp2_with fail
            refine (ro.out _).mono ?_
            rintro e w2 ⟨rfl, hv2⟩
            have t1 : w2.heap[B]? = some (.cells #[.int .i64 0, .int .i64 0, .int .i64 0, .string ⟨#[]⟩] 33) := (hv2.block B (blk_lt b0.out)).trans b0.out
            have c10 := blk_cell t1 0
            have c11 := blk_cell t1 1
            have c12 := blk_cell t1 2
            have c13 := blk_cell t1 3
            have f10 := blk_free t1 0
            have f11 := blk_free t1 1
            have f12 := blk_free t1 2
            have f13 := blk_free t1 3
            have T1 := hide t1
            have TB : Hid (Below B w w2) := hB.out.trans (hv2.mono (by omega))
            clear t1 hv2
            go_wp2_with fail
            have z := fun i => blk_cell (blk_set (blk_set (blk_set (blk_set T1.out 0 (.int .i64 3)) 1 (.int .i64 m1)) 2 (.int .i64 m2)) 3 (.string ⟨#[]⟩)) i
            have z0 := z 0
            have z1 := z 1
            have z2 := z 2
            have z3 := z 3
            clear z
            refine bodyPost_ret (v := .tuple #[.slice none 0 0, .agg #[.int .i64 3, .int .i64 m1, .int .i64 m2, .string ⟨#[]⟩]]) (by simp [results, Try.results35, go_sem, z0, z1, z2, z3]) rfl ⟨?_, ?_⟩
            ·
             rw [EB.out]
             have sf := fun W => splitR_fault s (B + 1) W acc 3 k ⟨#[]⟩ hTe.out
             rw [MJ.out] at sf
             exact sf _
            ·
             rw [EB.out]
             exact (((TB.out.setCell (p := ⟨B, 0, none⟩) (Nat.le_refl _) _).setCell (p := ⟨B, 1, none⟩) (Nat.le_refl _) _).setCell (p := ⟨B, 2, none⟩) (Nat.le_refl _) _).setCell (p := ⟨B, 3, none⟩) (Nat.le_refl _) _
           ·
            have v2 : (32 : Int) < (s[k].toNat : Int) := by omega
            by_cases v3 : (126 : Int) < (s[k].toNat : Int)
            ·
             have v4 : ¬ (s[k].toNat : Int) < 127 := by omega
             have hTe : Hid (lexG s (s.size + 1) 0 false = (acc, some (3, k, ⟨#[]⟩))) := by
              have : vis s[k] = ⟨#[]⟩ := by unfold vis; rw [if_pos (Or.inr (by omega))]
              rw [this] at hTe0; exact hTe0
             clear hTe0 v1 v3
             go_wp2_with fail
             refine (ab.out _).mono ?_
             rintro e w9 ⟨rfl, rfl⟩
             go_wp2_with fail
             refine (rl.out _).mono ?_
             rintro e w9 ⟨rfl, rfl⟩
             go_wp2_with fail
             refine (rd.out _).mono ?_
             rintro e w9 ⟨rfl, rfl⟩
             go_wp2_with fail
             refine (am.out _).mono ?_
             rintro e w9 ⟨rfl, rfl⟩
             go_wp2_with fail
             refine (ro.out _).mono ?_
             rintro e w2 ⟨rfl, hv2⟩
             have t1 : w2.heap[B]? = some (.cells #[.int .i64 0, .int .i64 0, .int .i64 0, .string ⟨#[]⟩] 33) := (hv2.block B (blk_lt b0.out)).trans b0.out
             have c10 := blk_cell t1 0
             have c11 := blk_cell t1 1
             have c12 := blk_cell t1 2
             have c13 := blk_cell t1 3
             have f10 := blk_free t1 0
             have f11 := blk_free t1 1
             have f12 := blk_free t1 2
             have f13 := blk_free t1 3
             have T1 := hide t1
             have TB : Hid (Below B w w2) := hB.out.trans (hv2.mono (by omega))
             clear t1 hv2
             go_wp2_with fail
             have z := fun i => blk_cell (blk_set (blk_set (blk_set (blk_set T1.out 0 (.int .i64 3)) 1 (.int .i64 m1)) 2 (.int .i64 m2)) 3 (.string ⟨#[]⟩)) i
             have z0 := z 0
             have z1 := z 1
             have z2 := z 2
             have z3 := z 3
             clear z
             refine bodyPost_ret (v := .tuple #[.slice none 0 0, .agg #[.int .i64 3, .int .i64 m1, .int .i64 m2, .string ⟨#[]⟩]]) (by simp [results, Try.results35, go_sem, z0, z1, z2, z3]) rfl ⟨?_, ?_⟩
             ·
              rw [EB.out]
              have sf := fun W => splitR_fault s (B + 1) W acc 3 k ⟨#[]⟩ hTe.out
              rw [MJ.out] at sf
              exact sf _
             ·
              rw [EB.out]
              exact (((TB.out.setCell (p := ⟨B, 0, none⟩) (Nat.le_refl _) _).setCell (p := ⟨B, 1, none⟩) (Nat.le_refl _) _).setCell (p := ⟨B, 2, none⟩) (Nat.le_refl _) _).setCell (p := ⟨B, 3, none⟩) (Nat.le_refl _) _
            ·
             have v4 : (s[k].toNat : Int) < 127 := by omega
             have hTe : Hid (lexG s (s.size + 1) 0 false = (acc, some (3, k, s.extract k (k + 1)))) := by
              have : vis s[k] = s.extract k (k + 1) := by unfold vis; rw [if_neg (by omega), ext_one s k hlt]
              rw [this] at hTe0; exact hTe0
             clear hTe0 v1 v3
             go_wp2_with fail
             refine (ab.out _).mono ?_
             rintro e w9 ⟨rfl, rfl⟩
             go_wp2_with fail
             refine (rl.out _).mono ?_
             rintro e w9 ⟨rfl, rfl⟩
             go_wp2_with fail
             refine (rd.out _).mono ?_
             rintro e w9 ⟨rfl, rfl⟩
             go_wp2_with fail
             refine (am.out _).mono ?_
             rintro e w9 ⟨rfl, rfl⟩
             go_wp2_with fail
             refine (ro.out _).mono ?_
             rintro e w2 ⟨rfl, hv2⟩
             have t1 : w2.heap[B]? = some (.cells #[.int .i64 0, .int .i64 0, .int .i64 0, .string ⟨#[]⟩] 33) := (hv2.block B (blk_lt b0.out)).trans b0.out
             have c10 := blk_cell t1 0
             have c11 := blk_cell t1 1
             have c12 := blk_cell t1 2
             have c13 := blk_cell t1 3
             have f10 := blk_free t1 0
             have f11 := blk_free t1 1
             have f12 := blk_free t1 2
             have f13 := blk_free t1 3
             have T1 := hide t1
             have TB : Hid (Below B w w2) := hB.out.trans (hv2.mono (by omega))
             clear t1 hv2
             go_wp2_with fail
             have z := fun i => blk_cell (blk_set (blk_set (blk_set (blk_set T1.out 0 (.int .i64 3)) 1 (.int .i64 m1)) 2 (.int .i64 m2)) 3 (.string (s.extract k (k + 1)))) i
             have z0 := z 0
             have z1 := z 1
             have z2 := z 2
             have z3 := z 3
             clear z
             refine bodyPost_ret (v := .tuple #[.slice none 0 0, .agg #[.int .i64 3, .int .i64 m1, .int .i64 m2, .string (s.extract k (k + 1))]]) (by simp [results, Try.results35, go_sem, z0, z1, z2, z3]) rfl ⟨?_, ?_⟩
             ·
              rw [EB.out]
              have sf := fun W => splitR_fault s (B + 1) W acc 3 k (s.extract k (k + 1)) hTe.out
              rw [MJ.out] at sf
              exact sf _
             ·
              rw [EB.out]
              exact (((TB.out.setCell (p := ⟨B, 0, none⟩) (Nat.le_refl _) _).setCell (p := ⟨B, 1, none⟩) (Nat.le_refl _) _).setCell (p := ⟨B, 2, none⟩) (Nat.le_refl _) _).setCell (p := ⟨B, 3, none⟩) (Nat.le_refl _) _
         ·
          have hpp : ¬ Lib.hasPrefix (s[k] :: s.data.toList.drop (k + 1)) [45, 62] = true := fun h => by have := (hpi.1 h).2; rw [dif_neg hk1] at this; cases this
          rw [if_neg hpp] at hfirst
          clear hpp
          rw [if_neg (by rw [hns]; decide)] at hfirst
          rw [hns] at am
          have hk1I : ¬ (k : Int) + 1 < (s.size : Int) := by omega
          clear h45 hns hk1
          have hTe0 : lexG s (s.size + 1) 0 false = (acc, some (3, k, vis s[k])) := by
           have h1 := lexG_form s f k false k hka hend (by rw [hfirst])
           have h2 := hTT.out
           rw [h1] at h2
           rw [← HT.out, h2, bs_get s k hlt]
           simp [visHead]
          clear hfirst hpi
          by_cases v1 : (s[k].toNat : Int) < 33
          ·
           have v2 : ¬ (32 : Int) < (s[k].toNat : Int) := by omega
           have hTe : Hid (lexG s (s.size + 1) 0 false = (acc, some (3, k, ⟨#[]⟩))) := by
            have : vis s[k] = ⟨#[]⟩ := by unfold vis; rw [if_pos (Or.inl (by omega))]
            rw [this] at hTe0; exact hTe0
           clear hTe0 v1
           go_wp2_with fail
           refine (ab.out _).mono ?_
           rintro e w9 ⟨rfl, rfl⟩
           go_wp2_with fail
           refine (rl.out _).mono ?_
           rintro e w9 ⟨rfl, rfl⟩
           go_wp2_with fail
           refine (rd.out _).mono ?_
           rintro e w9 ⟨rfl, rfl⟩
           go_wp2_with fail
           refine (am.out _).mono ?_
           rintro e w9 ⟨rfl, rfl⟩
           go_wp2_with fail
           refine (ro.out _).mono ?_
           rintro e w2 ⟨rfl, hv2⟩
           have t1 : w2.heap[B]? = some (.cells #[.int .i64 0, .int .i64 0, .int .i64 0, .string ⟨#[]⟩] 33) := (hv2.block B (blk_lt b0.out)).trans b0.out
           have c10 := blk_cell t1 0
           have c11 := blk_cell t1 1
           have c12 := blk_cell t1 2
           have c13 := blk_cell t1 3
           have f10 := blk_free t1 0
           have f11 := blk_free t1 1
           have f12 := blk_free t1 2
           have f13 := blk_free t1 3
           have T1 := hide t1
           have TB : Hid (Below B w w2) := hB.out.trans (hv2.mono (by omega))
           clear t1 hv2
           go_wp2_with fail
           have z := fun i => blk_cell (blk_set (blk_set (blk_set (blk_set T1.out 0 (.int .i64 3)) 1 (.int .i64 m1)) 2 (.int .i64 m2)) 3 (.string ⟨#[]⟩)) i
           have z0 := z 0
           have z1 := z 1
           have z2 := z 2
           have z3 := z 3
           clear z
           refine bodyPost_ret (v := .tuple #[.slice none 0 0, .agg #[.int .i64 3, .int .i64 m1, .int .i64 m2, .string ⟨#[]⟩]]) (by simp [results, Try.results35, go_sem, z0, z1, z2, z3]) rfl ⟨?_, ?_⟩
           ·
            rw [EB.out]
            have sf := fun W => splitR_fault s (B + 1) W acc 3 k ⟨#[]⟩ hTe.out
            rw [MJ.out] at sf
            exact sf _
           ·
            rw [EB.out]
            exact (((TB.out.setCell (p := ⟨B, 0, none⟩) (Nat.le_refl _) _).setCell (p := ⟨B, 1, none⟩) (Nat.le_refl _) _).setCell (p := ⟨B, 2, none⟩) (Nat.le_refl _) _).setCell (p := ⟨B, 3, none⟩) (Nat.le_refl _) _
          ·
           have v2 : (32 : Int) < (s[k].toNat : Int) := by omega
           by_cases v3 : (126 : Int) < (s[k].toNat : Int)
           ·
            have v4 : ¬ (s[k].toNat : Int) < 127 := by omega
            have hTe : Hid (lexG s (s.size + 1) 0 false = (acc, some (3, k, ⟨#[]⟩))) := by
             have : vis s[k] = ⟨#[]⟩ := by unfold vis; rw [if_pos (Or.inr (by omega))]
             rw [this] at hTe0; exact hTe0
            clear hTe0 v1 v3
            go_wp2_with fail
            refine (ab.out _).mono ?_
            rintro e w9 ⟨rfl, rfl⟩
            go_wp2_with fail
            refine (rl.out _).mono ?_
            rintro e w9 ⟨rfl, rfl⟩
            go_wp2_with fail
            refine (rd.out _).mono ?_
            rintro e w9 ⟨rfl, rfl⟩
            go_wp2_with fail
            refine (am.out _).mono ?_
            rintro e w9 ⟨rfl, rfl⟩
            go_wp2_with fail
            refine (ro.out _).mono ?_
            rintro e w2 ⟨rfl, hv2⟩
            have t1 : w2.heap[B]? = some (.cells #[.int .i64 0, .int .i64 0, .int .i64 0, .string ⟨#[]⟩] 33) := (hv2.block B (blk_lt b0.out)).trans b0.out
            have c10 := blk_cell t1 0
            have c11 := blk_cell t1 1
            have c12 := blk_cell t1 2
            have c13 := blk_cell t1 3
            have f10 := blk_free t1 0
            have f11 := blk_free t1 1
            have f12 := blk_free t1 2
            have f13 := blk_free t1 3
            have T1 := hide t1
            have TB : Hid (Below B w w2) := hB.out.trans (hv2.mono (by omega))
            clear t1 hv2
            go_wp2_with fail
            have z := fun i => blk_cell (blk_set (blk_set (blk_set (blk_set T1.out 0 (.int .i64 3)) 1 (.int .i64 m1)) 2 (.int .i64 m2)) 3 (.string ⟨#[]⟩)) i
            have z0 := z 0
            have z1 := z 1
            have z2 := z 2
            have z3 := z 3
            clear z
            refine bodyPost_ret (v := .tuple #[.slice none 0 0, .agg #[.int .i64 3, .int .i64 m1, .int .i64 m2, .string ⟨#[]⟩]]) (by simp [results, Try.results35, go_sem, z0, z1, z2, z3]) rfl ⟨?_, ?_⟩
            ·
             rw [EB.out]
             have sf := fun W => splitR_fault s (B + 1) W acc 3 k ⟨#[]⟩ hTe.out
             rw [MJ.out] at sf
             exact sf _
            ·
             rw [EB.out]
             exact (((TB.out.setCell (p := ⟨B, 0, none⟩) (Nat.le_refl _) _).setCell (p := ⟨B, 1, none⟩) (Nat.le_refl _) _).setCell (p := ⟨B, 2, none⟩) (Nat.le_refl _) _).setCell (p := ⟨B, 3, none⟩) (Nat.le_refl _) _
           ·
            have v4 : (s[k].toNat : Int) < 127 := by omega
            have hTe : Hid (lexG s (s.size + 1) 0 false = (acc, some (3, k, s.extract k (k + 1)))) := by
             have : vis s[k] = s.extract k (k + 1) := by unfold vis; rw [if_neg (by omega), ext_one s k hlt]
             rw [this] at hTe0; exact hTe0
            clear hTe0 v1 v3
            go_wp2_with fail
            refine (ab.out _).mono ?_
            rintro e w9 ⟨rfl, rfl⟩
            go_wp2_with fail
            refine (rl.out _).mono ?_
            rintro e w9 ⟨rfl, rfl⟩
            go_wp2_with fail
            refine (rd.out _).mono ?_
            rintro e w9 ⟨rfl, rfl⟩
            go_wp2_with fail
            refine (am.out _).mono ?_
            rintro e w9 ⟨rfl, rfl⟩
            go_wp2_with fail
            refine (ro.out _).mono ?_
            rintro e w2 ⟨rfl, hv2⟩
            have t1 : w2.heap[B]? = some (.cells #[.int .i64 0, .int .i64 0, .int .i64 0, .string ⟨#[]⟩] 33) := (hv2.block B (blk_lt b0.out)).trans b0.out
            have c10 := blk_cell t1 0
            have c11 := blk_cell t1 1
            have c12 := blk_cell t1 2
            have c13 := blk_cell t1 3
            have f10 := blk_free t1 0
            have f11 := blk_free t1 1
            have f12 := blk_free t1 2
            have f13 := blk_free t1 3
            have T1 := hide t1
            have TB : Hid (Below B w w2) := hB.out.trans (hv2.mono (by omega))
            clear t1 hv2
            go_wp2_with fail
            have z := fun i => blk_cell (blk_set (blk_set (blk_set (blk_set T1.out 0 (.int .i64 3)) 1 (.int .i64 m1)) 2 (.int .i64 m2)) 3 (.string (s.extract k (k + 1)))) i
            have z0 := z 0
            have z1 := z 1
            have z2 := z 2
            have z3 := z 3
            clear z
            refine bodyPost_ret (v := .tuple #[.slice none 0 0, .agg #[.int .i64 3, .int .i64 m1, .int .i64 m2, .string (s.extract k (k + 1))]]) (by simp [results, Try.results35, go_sem, z0, z1, z2, z3]) rfl ⟨?_, ?_⟩
            ·
             rw [EB.out]
             have sf := fun W => splitR_fault s (B + 1) W acc 3 k (s.extract k (k + 1)) hTe.out
             rw [MJ.out] at sf
             exact sf _
            ·
             rw [EB.out]
             exact (((TB.out.setCell (p := ⟨B, 0, none⟩) (Nat.le_refl _) _).setCell (p := ⟨B, 1, none⟩) (Nat.le_refl _) _).setCell (p := ⟨B, 2, none⟩) (Nat.le_refl _) _).setCell (p := ⟨B, 3, none⟩) (Nat.le_refl _) _
        ·
         have hpp : ¬ Lib.hasPrefix (s[k] :: s.data.toList.drop (k + 1)) [45, 62] = true := fun h => h45 (hpi.1 h).1
         rw [if_neg hpp] at hfirst
         clear hpp
         cases hsg : isSign s[k]
         ·
          rw [if_neg (by rw [hsg]; decide)] at hfirst
          rw [hsg] at am
          have e45 : ((s[k].toNat : Int) == 45) = false := by rw [byte_beq s[k] 45 45 rfl]; simpa using h45
          clear h45 hsg
          have hTe0 : lexG s (s.size + 1) 0 false = (acc, some (3, k, vis s[k])) := by
           have h1 := lexG_form s f k false k hka hend (by rw [hfirst])
           have h2 := hTT.out
           rw [h1] at h2
           rw [← HT.out, h2, bs_get s k hlt]
           simp [visHead]
          clear hfirst hpi
          by_cases v1 : (s[k].toNat : Int) < 33
          ·
           have v2 : ¬ (32 : Int) < (s[k].toNat : Int) := by omega
           have hTe : Hid (lexG s (s.size + 1) 0 false = (acc, some (3, k, ⟨#[]⟩))) := by
            have : vis s[k] = ⟨#[]⟩ := by unfold vis; rw [if_pos (Or.inl (by omega))]
            rw [this] at hTe0; exact hTe0
           clear hTe0 v1
           go_wp2_with fail
           refine (ab.out _).mono ?_
           rintro e w9 ⟨rfl, rfl⟩
           go_wp2_with fail
           refine (rl.out _).mono ?_
           rintro e w9 ⟨rfl, rfl⟩
           go_wp2_with fail
           refine (rd.out _).mono ?_
           rintro e w9 ⟨rfl, rfl⟩
           go_wp2_with fail
           refine (am.out _).mono ?_
           rintro e w9 ⟨rfl, rfl⟩
           go_wp2_with fail
           refine (ro.out _).mono ?_
           rintro e w2 ⟨rfl, hv2⟩
           have t1 : w2.heap[B]? = some (.cells #[.int .i64 0, .int .i64 0, .int .i64 0, .string ⟨#[]⟩] 33) := (hv2.block B (blk_lt b0.out)).trans b0.out
           have c10 := blk_cell t1 0
           have c11 := blk_cell t1 1
           have c12 := blk_cell t1 2
           have c13 := blk_cell t1 3
           have f10 := blk_free t1 0
           have f11 := blk_free t1 1
           have f12 := blk_free t1 2
           have f13 := blk_free t1 3
           have T1 := hide t1
           have TB : Hid (Below B w w2) := hB.out.trans (hv2.mono (by omega))
           clear t1 hv2
           go_wp2_with fail
           have z := fun i => blk_cell (blk_set (blk_set (blk_set (blk_set T1.out 0 (.int .i64 3)) 1 (.int .i64 m1)) 2 (.int .i64 m2)) 3 (.string ⟨#[]⟩)) i
           have z0 := z 0
           have z1 := z 1
           have z2 := z 2
           have z3 := z 3
           clear z
           refine bodyPost_ret (v := .tuple #[.slice none 0 0, .agg #[.int .i64 3, .int .i64 m1, .int .i64 m2, .string ⟨#[]⟩]]) (by simp [results, Try.results35, go_sem, z0, z1, z2, z3]) rfl ⟨?_, ?_⟩
           ·
            rw [EB.out]
            have sf := fun W => splitR_fault s (B + 1) W acc 3 k ⟨#[]⟩ hTe.out
            rw [MJ.out] at sf
            exact sf _
           ·
            rw [EB.out]
            exact (((TB.out.setCell (p := ⟨B, 0, none⟩) (Nat.le_refl _) _).setCell (p := ⟨B, 1, none⟩) (Nat.le_refl _) _).setCell (p := ⟨B, 2, none⟩) (Nat.le_refl _) _).setCell (p := ⟨B, 3, none⟩) (Nat.le_refl _) _
          ·
           have v2 : (32 : Int) < (s[k].toNat : Int) := by omega
           by_cases v3 : (126 : Int) < (s[k].toNat : Int)
           ·
            have v4 : ¬ (s[k].toNat : Int) < 127 := by omega
            have hTe : Hid (lexG s (s.size + 1) 0 false = (acc, some (3, k, ⟨#[]⟩))) := by
             have : vis s[k] = ⟨#[]⟩ := by unfold vis; rw [if_pos (Or.inr (by omega))]
             rw [this] at hTe0; exact hTe0
            clear hTe0 v1 v3
            go_wp2_with fail
            refine (ab.out _).mono ?_
            rintro e w9 ⟨rfl, rfl⟩
            go_wp2_with fail
            refine (rl.out _).mono ?_
            rintro e w9 ⟨rfl, rfl⟩
            go_wp2_with fail
            refine (rd.out _).mono ?_
            rintro e w9 ⟨rfl, rfl⟩
            go_wp2_with fail
            refine (am.out _).mono ?_
            rintro e w9 ⟨rfl, rfl⟩
            go_wp2_with fail
            refine (ro.out _).mono ?_
            rintro e w2 ⟨rfl, hv2⟩
            have t1 : w2.heap[B]? = some (.cells #[.int .i64 0, .int .i64 0, .int .i64 0, .string ⟨#[]⟩] 33) := (hv2.block B (blk_lt b0.out)).trans b0.out
            have c10 := blk_cell t1 0
            have c11 := blk_cell t1 1
            have c12 := blk_cell t1 2
            have c13 := blk_cell t1 3
            have f10 := blk_free t1 0
            have f11 := blk_free t1 1
            have f12 := blk_free t1 2
            have f13 := blk_free t1 3
            have T1 := hide t1
            have TB : Hid (Below B w w2) := hB.out.trans (hv2.mono (by omega))
            clear t1 hv2
            go_wp2_with fail
            have z := fun i => blk_cell (blk_set (blk_set (blk_set (blk_set T1.out 0 (.int .i64 3)) 1 (.int .i64 m1)) 2 (.int .i64 m2)) 3 (.string ⟨#[]⟩)) i
            have z0 := z 0
            have z1 := z 1
            have z2 := z 2
            have z3 := z 3
            clear z
            refine bodyPost_ret (v := .tuple #[.slice none 0 0, .agg #[.int .i64 3, .int .i64 m1, .int .i64 m2, .string ⟨#[]⟩]]) (by simp [results, Try.results35, go_sem, z0, z1, z2, z3]) rfl ⟨?_, ?_⟩
            ·
             rw [EB.out]
             have sf := fun W => splitR_fault s (B + 1) W acc 3 k ⟨#[]⟩ hTe.out
             rw [MJ.out] at sf
             exact sf _
            ·
             rw [EB.out]
             exact (((TB.out.setCell (p := ⟨B, 0, none⟩) (Nat.le_refl _) _).setCell (p := ⟨B, 1, none⟩) (Nat.le_refl _) _).setCell (p := ⟨B, 2, none⟩) (Nat.le_refl _) _).setCell (p := ⟨B, 3, none⟩) (Nat.le_refl _) _
           ·
            have v4 : (s[k].toNat : Int) < 127 := by omega
            have hTe : Hid (lexG s (s.size + 1) 0 false = (acc, some (3, k, s.extract k (k + 1)))) := by
             have : vis s[k] = s.extract k (k + 1) := by unfold vis; rw [if_neg (by omega), ext_one s k hlt]
             rw [this] at hTe0; exact hTe0
            clear hTe0 v1 v3
            go_wp2_with fail
            refine (ab.out _).mono ?_
            rintro e w9 ⟨rfl, rfl⟩
            go_wp2_with fail
            refine (rl.out _).mono ?_
            rintro e w9 ⟨rfl, rfl⟩
            go_wp2_with fail
            refine (rd.out _).mono ?_
            rintro e w9 ⟨rfl, rfl⟩
            go_wp2_with fail
            refine (am.out _).mono ?_
            rintro e w9 ⟨rfl, rfl⟩
            go_wp2_with fail
            refine (ro.out _).mono ?_
            rintro e w2 ⟨rfl, hv2⟩
            have t1 : w2.heap[B]? = some (.cells #[.int .i64 0, .int .i64 0, .int .i64 0, .string ⟨#[]⟩] 33) := (hv2.block B (blk_lt b0.out)).trans b0.out
            have c10 := blk_cell t1 0
            have c11 := blk_cell t1 1
            have c12 := blk_cell t1 2
            have c13 := blk_cell t1 3
            have f10 := blk_free t1 0
            have f11 := blk_free t1 1
            have f12 := blk_free t1 2
            have f13 := blk_free t1 3
            have T1 := hide t1
            have TB : Hid (Below B w w2) := hB.out.trans (hv2.mono (by omega))
            clear t1 hv2
            go_wp2_with fail
            have z := fun i => blk_cell (blk_set (blk_set (blk_set (blk_set T1.out 0 (.int .i64 3)) 1 (.int .i64 m1)) 2 (.int .i64 m2)) 3 (.string (s.extract k (k + 1)))) i
            have z0 := z 0
            have z1 := z 1
            have z2 := z 2
            have z3 := z 3
            clear z
            refine bodyPost_ret (v := .tuple #[.slice none 0 0, .agg #[.int .i64 3, .int .i64 m1, .int .i64 m2, .string (s.extract k (k + 1))]]) (by simp [results, Try.results35, go_sem, z0, z1, z2, z3]) rfl ⟨?_, ?_⟩
            ·
             rw [EB.out]
             have sf := fun W => splitR_fault s (B + 1) W acc 3 k (s.extract k (k + 1)) hTe.out
             rw [MJ.out] at sf
             exact sf _
            ·
             rw [EB.out]
             exact (((TB.out.setCell (p := ⟨B, 0, none⟩) (Nat.le_refl _) _).setCell (p := ⟨B, 1, none⟩) (Nat.le_refl _) _).setCell (p := ⟨B, 2, none⟩) (Nat.le_refl _) _).setCell (p := ⟨B, 3, none⟩) (Nat.le_refl _) _
         ·
          rw [if_pos hsg] at hfirst
          rw [hsg] at am
          have e45 : ((s[k].toNat : Int) == 45) = false := by rw [byte_beq s[k] 45 45 rfl]; simpa using h45
          have hT2 : Hid (T = ((acc ++ [(3, s.extract k (k + 1), k)]) ++ (lexG s f (k + 1) false).1, (lexG s f (k + 1) false).2)) := by
           have h1 := lexG_tok s f k false k 1 hka hend (by rw [hfirst]) (by omega) (by rw [hfirst]; rfl)
           have h2 := hTT.out
           rw [h1, hfirst] at h2
           unfold Hid
           rw [h2]
           simp
          clear hfirst
          clear h45 hsg hpi
          go_wp2_with fail
          refine (ab.out _).mono ?_
          rintro e w9 ⟨rfl, rfl⟩
          go_wp2_with fail
          refine (rl.out _).mono ?_
          rintro e w9 ⟨rfl, rfl⟩
          go_wp2_with fail
          refine (rd.out _).mono ?_
          rintro e w9 ⟨rfl, rfl⟩
          go_wp2_with fail
          refine (am.out _).mono ?_
          rintro e w9 ⟨rfl, rfl⟩
          go_wp2_with (at_builtin; refine wpList_append_own _ rfl _ _ 83 rfl (B + 1) 119 i0 (.agg #[.int .i64 0, .string ⟨#[]⟩, .int .i64 0]) 3 32 Try.underlying83 hi0 hz0 hz1 hz2 rfl (by decide) _ acc.length (cellsOf acc) rfl (hown.out.alloc _) ⟨wr.heap.size, 0, none⟩ 1 1 [.int .i64 3, .string (s.extract k (k + 1)), .int .i64 k] rfl rfl (World.news_of_block (cs := #[.int .i64 3, .string (s.extract k (k + 1)), .int .i64 k]) (t := 119) (fr := (0, 0)) (heap_alloc_new wr _)) (by simp [Value.oneCell']) (by simp [maxLen]; omega) (by omega) (by simp; omega) ?_; intro v' w1 hown1 hgrow _)
          have R0 : Hid (w1.heap[B]? = some (.cells #[.int .i64 0, .int .i64 0, .int .i64 0, .string ⟨#[]⟩] 33)) := (hgrow.block B (by simp; omega) (fun e => by have := (hown.out.lt _ e.symm).1; omega)).trans (blk_alloc b0.out)
          have RB : Hid (Below B w w1) := (hB.out.alloc (by omega) _).grown hgrow (by simp; omega) (fun r e => by have := (hown.out.lt _ e).1; omega)
          have RS : B + 1 ≤ w1.heap.size := by have := hgrow.size; simp at this; omega
          have RO := hide hown1
          clear hown1 hgrow
          go_wp2_with fail
          go_roundw
          case rel => exact ⟨k + 1, f, acc ++ [(3, s.extract k (k + 1), k)], false, _, rfl, by omega, by omega, by simp; omega, rfl, by go_num, R0, by
            unfold Hid
            rw [cellsOf_snoc, List.length_append]
            exact RO.out, RB, RS, hT2⟩
          case measure => simp [intOf]; omega
       ·
        rw [hL] at rl
        rw [hD] at rd
        have hpc : isDigit s[k] = true := hD
        have hfirst : firstOf (s.data.toList.drop k) = (2, runLen isDigit (s.data.toList.drop k)) := by rw [hbs]; simp only [firstOf]; rw [if_neg (by rw [hL]; decide), if_pos hD]
        clear hbs hL
        have hone : 1 + runLen isDigit (s.data.toList.drop (k + 1)) = runLen isDigit (s.data.toList.drop k) := by
         rw [runLen_at isDigit s k hlt, if_pos hpc]; omega
        have ri := hide (fun (c : UInt8) w => refDigit c w)
        have hfk : Hid (firstOf (s.data.toList.drop k) = (2, runLen isDigit (s.data.toList.drop k))) := hfirst
        have Hone := hide hone
        clear hone hfirst
        go_wp2_with fail
        refine (ab.out _).mono ?_
        rintro e w9 ⟨rfl, rfl⟩
        go_wp2_with fail
        refine (rl.out _).mono ?_
        rintro e w9 ⟨rfl, rfl⟩
        go_wp2_with fail
        refine (rd.out _).mono ?_
        rintro e w9 ⟨rfl, rfl⟩
        go_wp2_with fail
        go_loop [8] (fun n => ∃ q : Nat, 1 ≤ q ∧ k + q ≤ s.size ∧ n = .int .i64 q ∧ Hid (q + runLen isDigit (s.data.toList.drop (k + q)) = runLen isDigit (s.data.toList.drop k))) (fun n => s.size + 1 - (intOf n).toNat)
        case atStart => exact ⟨1, by omega, by omega, rfl, Hone.out⟩
        case round =>
         obtain ⟨q, hq1, hq2, rfl, hqr⟩ := hrel
         have eq1 : ((k : Int) + (q : Int)).toNat = k + q := by omega
         by_cases hlq : k + q < s.size
         ·
          have hlqI : (k : Int) + (q : Int) < (s.size : Int) := by omega
          have hra := runLen_at isDigit s (k + q) hlq
          have rii := hide (fun w => ri.out s[k + q] w)
          cases hb : isDigit s[k + q]
          ·
           have hrun : runLen isDigit (s.data.toList.drop k) = q := by rw [← hqr.out, hra, hb]; simp
           have hq := hfk.out
           rw [hrun] at hq
           rw [hb] at rii
           clear hra hb hrun hqr
           go_wp2_with fail
           refine (rii.out _).mono ?_
           rintro e w9 ⟨rfl, rfl⟩
           by_cases hlim : (9 : Int) < (q : Int)
           ·
            have hTe : Hid (lexG s (s.size + 1) 0 false = (acc, some (2, k, headOf (s.extract k (k + q))))) := by
             have h1 := lexG_long s f k false k q hka hend (by rw [hq]) (by omega) (by rw [hq]; simp [tooLong]; omega)
             have h2 := hTT.out
             rw [h1] at h2
             unfold Hid
             rw [← HT.out, h2]
             simp
            have rh := hide (fun w => refHead (s.extract k (k + q)) (by simp; omega) w)
            generalize hww : headOf (s.extract k (k + q)) = ww at *
            clear hww hq
            go_wp2_with fail
            have e1 : IntKind.i64.wrap ((k : Int) + (q : Int)) = (k : Int) + (q : Int) := IntWalk.i64_in _ (by omega)
            have e2 : (0 : Int) ≤ (k : Int) + (q : Int) := by omega
            have e4 : (k : Int) + (q : Int) ≤ (s.size : Int) := by omega
            have e5 : (k : Int) ≤ (k : Int) + (q : Int) := by omega
            have e6 : (0 : Int) ≤ (k : Int) := by omega
            have eBs : B ≤ wr.heap.size := by omega
            go_region_held3 (fun _ => True) (trivial)
             (first
               | (go_at_call 65; refine (ro.out _).mono ?_; rintro e w2 ⟨rfl, hv2⟩; have t1 : w2.heap[B]? = some (.cells #[.int .i64 0, .int .i64 0, .int .i64 0, .string ⟨#[]⟩] 33) := (hv2.block B (blk_lt b0.out)).trans b0.out; have c10 := blk_cell t1 0; have c11 := blk_cell t1 1; have c12 := blk_cell t1 2; have c13 := blk_cell t1 3; have f10 := blk_free t1 0; have f11 := blk_free t1 1; have f12 := blk_free t1 2; have f13 := blk_free t1 3; have T1 := hide t1; have TB : Hid (Below B w w2) := hB.out.drew.trans (hv2.mono eBs); clear t1 hv2)
               | (go_at_call 66; refine (rh.out _).mono ?_; rintro e w9 ⟨rfl, rfl⟩))
            all_goals
             go_wp2_with fail
             have z := fun i => blk_cell (blk_set (blk_set (blk_set (blk_set T1.out 0 (.int .i64 2)) 1 (.int .i64 m1)) 2 (.int .i64 m2)) 3 (.string ww)) i
             have z0 := z 0
             have z1 := z 1
             have z2 := z 2
             have z3 := z 3
             clear z
             refine bodyPost_ret (v := .tuple #[.slice none 0 0, .agg #[.int .i64 2, .int .i64 m1, .int .i64 m2, .string ww]]) (by simp [results, Try.results35, go_sem, z0, z1, z2, z3]) rfl ⟨?_, ?_⟩
             ·
              rw [EB.out]
              have sf := fun W => splitR_fault s (B + 1) W acc 2 k ww hTe.out
              rw [MJ.out] at sf
              exact sf _
             ·
              rw [EB.out]
              exact (((TB.out.setCell (p := ⟨B, 0, none⟩) (Nat.le_refl _) _).setCell (p := ⟨B, 1, none⟩) (Nat.le_refl _) _).setCell (p := ⟨B, 2, none⟩) (Nat.le_refl _) _).setCell (p := ⟨B, 3, none⟩) (Nat.le_refl _) _
           ·
            have hT2 : Hid (T = ((acc ++ [(2, s.extract k (k + q), k)]) ++ (lexG s f (k + q) false).1, (lexG s f (k + q) false).2)) := by
             have h1 := lexG_tok s f k false k q hka hend (by rw [hq]) (by omega) (by rw [hq]; simp [tooLong]; omega)
             have h2 := hTT.out
             rw [h1, hq] at h2
             unfold Hid
             rw [h2]
             simp
            clear hq
            go_wp2_with (at_builtin; refine wpList_append_own _ rfl _ _ 83 rfl (B + 1) 119 i0 (.agg #[.int .i64 0, .string ⟨#[]⟩, .int .i64 0]) 3 32 Try.underlying83 hi0 hz0 hz1 hz2 rfl (by decide) _ acc.length (cellsOf acc) rfl (hown.out.alloc _) ⟨wr.heap.size, 0, none⟩ 1 1 [.int .i64 2, .string (s.extract k (k + q)), .int .i64 k] rfl rfl (World.news_of_block (cs := #[.int .i64 2, .string (s.extract k (k + q)), .int .i64 k]) (t := 119) (fr := (0, 0)) (heap_alloc_new wr _)) (by simp [Value.oneCell']) (by simp [maxLen]; omega) (by omega) (by simp; omega) ?_; intro v' w1 hown1 hgrow _)
            have R0 : Hid (w1.heap[B]? = some (.cells #[.int .i64 0, .int .i64 0, .int .i64 0, .string ⟨#[]⟩] 33)) := (hgrow.block B (by simp; omega) (fun e => by have := (hown.out.lt _ e.symm).1; omega)).trans (blk_alloc b0.out)
            have RB : Hid (Below B w w1) := (hB.out.alloc (by omega) _).grown hgrow (by simp; omega) (fun r e => by have := (hown.out.lt _ e).1; omega)
            have RS : B + 1 ≤ w1.heap.size := by have := hgrow.size; simp at this; omega
            have RO := hide hown1
            clear hown1 hgrow
            go_wp2_with fail
            go_roundw
            case rel => exact ⟨k + q, f, acc ++ [(2, s.extract k (k + q), k)], false, _, rfl, by omega, by omega, by simp; omega, rfl, by go_num, R0, by
              unfold Hid
              rw [cellsOf_snoc, List.length_append]
              exact RO.out, RB, RS, hT2⟩
            case measure => simp [intOf]; omega
          ·
           have e2 : Hid (q + 1 + runLen isDigit (s.data.toList.drop (k + (q + 1))) = runLen isDigit (s.data.toList.drop k)) := by
            unfold Hid
            rw [← hqr.out, hra, hb, ← Nat.add_assoc]; simp; omega
           rw [hb] at rii
           clear hra hb hqr
           go_wp2_with fail
           refine (rii.out _).mono ?_
           rintro e w9 ⟨rfl, rfl⟩
           go_wp2_with fail
           go_round
           case rel => exact ⟨q + 1, by omega, by omega, by go_num, e2⟩
           case measure => simp [intOf]; omega
         ·
          have hrun : runLen isDigit (s.data.toList.drop k) = q := by
           rw [← hqr.out, List.drop_eq_nil_of_le (by simp; omega)]; simp [runLen]
          have hq := hfk.out
          rw [hrun] at hq
          clear hrun hqr
          by_cases hlim : (9 : Int) < (q : Int)
          ·
           have hTe : Hid (lexG s (s.size + 1) 0 false = (acc, some (2, k, headOf (s.extract k (k + q))))) := by
            have h1 := lexG_long s f k false k q hka hend (by rw [hq]) (by omega) (by rw [hq]; simp [tooLong]; omega)
            have h2 := hTT.out
            rw [h1] at h2
            unfold Hid
            rw [← HT.out, h2]
            simp
           have rh := hide (fun w => refHead (s.extract k (k + q)) (by simp; omega) w)
           generalize hww : headOf (s.extract k (k + q)) = ww at *
           clear hww hq
           go_wp2_with fail
           have e1 : IntKind.i64.wrap ((k : Int) + (q : Int)) = (k : Int) + (q : Int) := IntWalk.i64_in _ (by omega)
           have e2 : (0 : Int) ≤ (k : Int) + (q : Int) := by omega
           have e4 : (k : Int) + (q : Int) ≤ (s.size : Int) := by omega
           have e5 : (k : Int) ≤ (k : Int) + (q : Int) := by omega
           have e6 : (0 : Int) ≤ (k : Int) := by omega
           have eBs : B ≤ wr.heap.size := by omega
           go_region_held3 (fun _ => True) (trivial)
            (first
              | (go_at_call 65; refine (ro.out _).mono ?_; rintro e w2 ⟨rfl, hv2⟩; have t1 : w2.heap[B]? = some (.cells #[.int .i64 0, .int .i64 0, .int .i64 0, .string ⟨#[]⟩] 33) := (hv2.block B (blk_lt b0.out)).trans b0.out; have c10 := blk_cell t1 0; have c11 := blk_cell t1 1; have c12 := blk_cell t1 2; have c13 := blk_cell t1 3; have f10 := blk_free t1 0; have f11 := blk_free t1 1; have f12 := blk_free t1 2; have f13 := blk_free t1 3; have T1 := hide t1; have TB : Hid (Below B w w2) := hB.out.drew.trans (hv2.mono eBs); clear t1 hv2)
              | (go_at_call 66; refine (rh.out _).mono ?_; rintro e w9 ⟨rfl, rfl⟩))
           all_goals
            go_wp2_with fail
            have z := fun i => blk_cell (blk_set (blk_set (blk_set (blk_set T1.out 0 (.int .i64 2)) 1 (.int .i64 m1)) 2 (.int .i64 m2)) 3 (.string ww)) i
            have z0 := z 0
            have z1 := z 1
            have z2 := z 2
            have z3 := z 3
            clear z
            refine bodyPost_ret (v := .tuple #[.slice none 0 0, .agg #[.int .i64 2, .int .i64 m1, .int .i64 m2, .string ww]]) (by simp [results, Try.results35, go_sem, z0, z1, z2, z3]) rfl ⟨?_, ?_⟩
            ·
             rw [EB.out]
             have sf := fun W => splitR_fault s (B + 1) W acc 2 k ww hTe.out
             rw [MJ.out] at sf
             exact sf _
            ·
             rw [EB.out]
             exact (((TB.out.setCell (p := ⟨B, 0, none⟩) (Nat.le_refl _) _).setCell (p := ⟨B, 1, none⟩) (Nat.le_refl _) _).setCell (p := ⟨B, 2, none⟩) (Nat.le_refl _) _).setCell (p := ⟨B, 3, none⟩) (Nat.le_refl _) _
          ·
           have hT2 : Hid (T = ((acc ++ [(2, s.extract k (k + q), k)]) ++ (lexG s f (k + q) false).1, (lexG s f (k + q) false).2)) := by
            have h1 := lexG_tok s f k false k q hka hend (by rw [hq]) (by omega) (by rw [hq]; simp [tooLong]; omega)
            have h2 := hTT.out
            rw [h1, hq] at h2
            unfold Hid
            rw [h2]
            simp
           clear hq
           go_wp2_with (at_builtin; refine wpList_append_own _ rfl _ _ 83 rfl (B + 1) 119 i0 (.agg #[.int .i64 0, .string ⟨#[]⟩, .int .i64 0]) 3 32 Try.underlying83 hi0 hz0 hz1 hz2 rfl (by decide) _ acc.length (cellsOf acc) rfl (hown.out.alloc _) ⟨wr.heap.size, 0, none⟩ 1 1 [.int .i64 2, .string (s.extract k (k + q)), .int .i64 k] rfl rfl (World.news_of_block (cs := #[.int .i64 2, .string (s.extract k (k + q)), .int .i64 k]) (t := 119) (fr := (0, 0)) (heap_alloc_new wr _)) (by simp [Value.oneCell']) (by simp [maxLen]; omega) (by omega) (by simp; omega) ?_; intro v' w1 hown1 hgrow _)
           have R0 : Hid (w1.heap[B]? = some (.cells #[.int .i64 0, .int .i64 0, .int .i64 0, .string ⟨#[]⟩] 33)) := (hgrow.block B (by simp; omega) (fun e => by have := (hown.out.lt _ e.symm).1; omega)).trans (blk_alloc b0.out)
           have RB : Hid (Below B w w1) := (hB.out.alloc (by omega) _).grown hgrow (by simp; omega) (fun r e => by have := (hown.out.lt _ e).1; omega)
           have RS : B + 1 ≤ w1.heap.size := by have := hgrow.size; simp at this; omega
           have RO := hide hown1
           clear hown1 hgrow
           go_wp2_with fail
           go_roundw
           case rel => exact ⟨k + q, f, acc ++ [(2, s.extract k (k + q), k)], false, _, rfl, by omega, by omega, by simp; omega, rfl, by go_num, R0, by
             unfold Hid
             rw [cellsOf_snoc, List.length_append]
             exact RO.out, RB, RS, hT2⟩
           case measure => simp [intOf]; omega
      ·
       rw [hL] at rl
       have hpc : isInner s[k] = true := by simp [isInner, hL]
       have hfirst : firstOf (s.data.toList.drop k) = (1, runLen isInner (s.data.toList.drop k)) := by rw [hbs]; simp only [firstOf]; rw [if_pos hL]
       clear hbs hL
       have hone : 1 + runLen isInner (s.data.toList.drop (k + 1)) = runLen isInner (s.data.toList.drop k) := by
        rw [runLen_at isInner s k hlt, if_pos hpc]; omega
       have ri := hide (fun (c : UInt8) w => refInner c w)
       have hfk : Hid (firstOf (s.data.toList.drop k) = (1, runLen isInner (s.data.toList.drop k))) := hfirst
       have Hone := hide hone
       clear hone hfirst
       go_wp2_with fail
       refine (ab.out _).mono ?_
       rintro e w9 ⟨rfl, rfl⟩
       go_wp2_with fail
       refine (rl.out _).mono ?_
       rintro e w9 ⟨rfl, rfl⟩
       go_wp2_with fail
       go_loop [8] (fun n => ∃ q : Nat, 1 ≤ q ∧ k + q ≤ s.size ∧ n = .int .i64 q ∧ Hid (q + runLen isInner (s.data.toList.drop (k + q)) = runLen isInner (s.data.toList.drop k))) (fun n => s.size + 1 - (intOf n).toNat)
       case atStart => exact ⟨1, by omega, by omega, rfl, Hone.out⟩
       case round =>
        obtain ⟨q, hq1, hq2, rfl, hqr⟩ := hrel
        have eq1 : ((k : Int) + (q : Int)).toNat = k + q := by omega
        by_cases hlq : k + q < s.size
        ·
         have hlqI : (k : Int) + (q : Int) < (s.size : Int) := by omega
         have hra := runLen_at isInner s (k + q) hlq
         have rii := hide (fun w => ri.out s[k + q] w)
         cases hb : isInner s[k + q]
         ·
          have hrun : runLen isInner (s.data.toList.drop k) = q := by rw [← hqr.out, hra, hb]; simp
          have hq := hfk.out
          rw [hrun] at hq
          rw [hb] at rii
          clear hra hb hrun hqr
          go_wp2_with fail
          refine (rii.out _).mono ?_
          rintro e w9 ⟨rfl, rfl⟩
          by_cases hlim : (30 : Int) < (q : Int)
          ·
           have hTe : Hid (lexG s (s.size + 1) 0 false = (acc, some (2, k, headOf (s.extract k (k + q))))) := by
            have h1 := lexG_long s f k false k q hka hend (by rw [hq]) (by omega) (by rw [hq]; simp [tooLong]; omega)
            have h2 := hTT.out
            rw [h1] at h2
            unfold Hid
            rw [← HT.out, h2]
            simp
           have rh := hide (fun w => refHead (s.extract k (k + q)) (by simp; omega) w)
           generalize hww : headOf (s.extract k (k + q)) = ww at *
           clear hww hq
           go_wp2_with fail
           have e1 : IntKind.i64.wrap ((k : Int) + (q : Int)) = (k : Int) + (q : Int) := IntWalk.i64_in _ (by omega)
           have e2 : (0 : Int) ≤ (k : Int) + (q : Int) := by omega
           have e4 : (k : Int) + (q : Int) ≤ (s.size : Int) := by omega
           have e5 : (k : Int) ≤ (k : Int) + (q : Int) := by omega
           have e6 : (0 : Int) ≤ (k : Int) := by omega
           have eBs : B ≤ wr.heap.size := by omega
           go_region_held3 (fun _ => True) (trivial)
            (first
              | (go_at_call 65; refine (ro.out _).mono ?_; rintro e w2 ⟨rfl, hv2⟩; have t1 : w2.heap[B]? = some (.cells #[.int .i64 0, .int .i64 0, .int .i64 0, .string ⟨#[]⟩] 33) := (hv2.block B (blk_lt b0.out)).trans b0.out; have c10 := blk_cell t1 0; have c11 := blk_cell t1 1; have c12 := blk_cell t1 2; have c13 := blk_cell t1 3; have f10 := blk_free t1 0; have f11 := blk_free t1 1; have f12 := blk_free t1 2; have f13 := blk_free t1 3; have T1 := hide t1; have TB : Hid (Below B w w2) := hB.out.drew.trans (hv2.mono eBs); clear t1 hv2)
              | (go_at_call 66; refine (rh.out _).mono ?_; rintro e w9 ⟨rfl, rfl⟩))
           all_goals
            go_wp2_with fail
            have z := fun i => blk_cell (blk_set (blk_set (blk_set (blk_set T1.out 0 (.int .i64 2)) 1 (.int .i64 m1)) 2 (.int .i64 m2)) 3 (.string ww)) i
            have z0 := z 0
            have z1 := z 1
            have z2 := z 2
            have z3 := z 3
            clear z
            refine bodyPost_ret (v := .tuple #[.slice none 0 0, .agg #[.int .i64 2, .int .i64 m1, .int .i64 m2, .string ww]]) (by simp [results, Try.results35, go_sem, z0, z1, z2, z3]) rfl ⟨?_, ?_⟩
            ·
             rw [EB.out]
             have sf := fun W => splitR_fault s (B + 1) W acc 2 k ww hTe.out
             rw [MJ.out] at sf
             exact sf _
            ·
             rw [EB.out]
             exact (((TB.out.setCell (p := ⟨B, 0, none⟩) (Nat.le_refl _) _).setCell (p := ⟨B, 1, none⟩) (Nat.le_refl _) _).setCell (p := ⟨B, 2, none⟩) (Nat.le_refl _) _).setCell (p := ⟨B, 3, none⟩) (Nat.le_refl _) _
          ·
           have hT2 : Hid (T = ((acc ++ [(1, s.extract k (k + q), k)]) ++ (lexG s f (k + q) false).1, (lexG s f (k + q) false).2)) := by
            have h1 := lexG_tok s f k false k q hka hend (by rw [hq]) (by omega) (by rw [hq]; simp [tooLong]; omega)
            have h2 := hTT.out
            rw [h1, hq] at h2
            unfold Hid
            rw [h2]
            simp
           clear hq
           go_wp2_with (at_builtin; refine wpList_append_own _ rfl _ _ 83 rfl (B + 1) 119 i0 (.agg #[.int .i64 0, .string ⟨#[]⟩, .int .i64 0]) 3 32 Try.underlying83 hi0 hz0 hz1 hz2 rfl (by decide) _ acc.length (cellsOf acc) rfl (hown.out.alloc _) ⟨wr.heap.size, 0, none⟩ 1 1 [.int .i64 1, .string (s.extract k (k + q)), .int .i64 k] rfl rfl (World.news_of_block (cs := #[.int .i64 1, .string (s.extract k (k + q)), .int .i64 k]) (t := 119) (fr := (0, 0)) (heap_alloc_new wr _)) (by simp [Value.oneCell']) (by simp [maxLen]; omega) (by omega) (by simp; omega) ?_; intro v' w1 hown1 hgrow _)
           have R0 : Hid (w1.heap[B]? = some (.cells #[.int .i64 0, .int .i64 0, .int .i64 0, .string ⟨#[]⟩] 33)) := (hgrow.block B (by simp; omega) (fun e => by have := (hown.out.lt _ e.symm).1; omega)).trans (blk_alloc b0.out)
           have RB : Hid (Below B w w1) := (hB.out.alloc (by omega) _).grown hgrow (by simp; omega) (fun r e => by have := (hown.out.lt _ e).1; omega)
           have RS : B + 1 ≤ w1.heap.size := by have := hgrow.size; simp at this; omega
           have RO := hide hown1
           clear hown1 hgrow
           go_wp2_with fail
           go_roundw
           case rel => exact ⟨k + q, f, acc ++ [(1, s.extract k (k + q), k)], false, _, rfl, by omega, by omega, by simp; omega, rfl, by go_num, R0, by
             unfold Hid
             rw [cellsOf_snoc, List.length_append]
             exact RO.out, RB, RS, hT2⟩
           case measure => simp [intOf]; omega
         ·
          have e2 : Hid (q + 1 + runLen isInner (s.data.toList.drop (k + (q + 1))) = runLen isInner (s.data.toList.drop k)) := by
           unfold Hid
           rw [← hqr.out, hra, hb, ← Nat.add_assoc]; simp; omega
          rw [hb] at rii
          clear hra hb hqr
          go_wp2_with fail
          refine (rii.out _).mono ?_
          rintro e w9 ⟨rfl, rfl⟩
          go_wp2_with fail
          go_round
          case rel => exact ⟨q + 1, by omega, by omega, by go_num, e2⟩
          case measure => simp [intOf]; omega
        ·
         have hrun : runLen isInner (s.data.toList.drop k) = q := by
          rw [← hqr.out, List.drop_eq_nil_of_le (by simp; omega)]; simp [runLen]
         have hq := hfk.out
         rw [hrun] at hq
         clear hrun hqr
         by_cases hlim : (30 : Int) < (q : Int)
         ·
          have hTe : Hid (lexG s (s.size + 1) 0 false = (acc, some (2, k, headOf (s.extract k (k + q))))) := by
           have h1 := lexG_long s f k false k q hka hend (by rw [hq]) (by omega) (by rw [hq]; simp [tooLong]; omega)
           have h2 := hTT.out
           rw [h1] at h2
           unfold Hid
           rw [← HT.out, h2]
           simp
          have rh := hide (fun w => refHead (s.extract k (k + q)) (by simp; omega) w)
          generalize hww : headOf (s.extract k (k + q)) = ww at *
          clear hww hq
          go_wp2_with fail
          have e1 : IntKind.i64.wrap ((k : Int) + (q : Int)) = (k : Int) + (q : Int) := IntWalk.i64_in _ (by omega)
          have e2 : (0 : Int) ≤ (k : Int) + (q : Int) := by omega
          have e4 : (k : Int) + (q : Int) ≤ (s.size : Int) := by omega
          have e5 : (k : Int) ≤ (k : Int) + (q : Int) := by omega
          have e6 : (0 : Int) ≤ (k : Int) := by omega
          have eBs : B ≤ wr.heap.size := by omega
          go_region_held3 (fun _ => True) (trivial)
           (first
             | (go_at_call 65; refine (ro.out _).mono ?_; rintro e w2 ⟨rfl, hv2⟩; have t1 : w2.heap[B]? = some (.cells #[.int .i64 0, .int .i64 0, .int .i64 0, .string ⟨#[]⟩] 33) := (hv2.block B (blk_lt b0.out)).trans b0.out; have c10 := blk_cell t1 0; have c11 := blk_cell t1 1; have c12 := blk_cell t1 2; have c13 := blk_cell t1 3; have f10 := blk_free t1 0; have f11 := blk_free t1 1; have f12 := blk_free t1 2; have f13 := blk_free t1 3; have T1 := hide t1; have TB : Hid (Below B w w2) := hB.out.drew.trans (hv2.mono eBs); clear t1 hv2)
             | (go_at_call 66; refine (rh.out _).mono ?_; rintro e w9 ⟨rfl, rfl⟩))
          all_goals
           go_wp2_with fail
           have z := fun i => blk_cell (blk_set (blk_set (blk_set (blk_set T1.out 0 (.int .i64 2)) 1 (.int .i64 m1)) 2 (.int .i64 m2)) 3 (.string ww)) i
           have z0 := z 0
           have z1 := z 1
           have z2 := z 2
           have z3 := z 3
           clear z
           refine bodyPost_ret (v := .tuple #[.slice none 0 0, .agg #[.int .i64 2, .int .i64 m1, .int .i64 m2, .string ww]]) (by simp [results, Try.results35, go_sem, z0, z1, z2, z3]) rfl ⟨?_, ?_⟩
           ·
            rw [EB.out]
            have sf := fun W => splitR_fault s (B + 1) W acc 2 k ww hTe.out
            rw [MJ.out] at sf
            exact sf _
           ·
            rw [EB.out]
            exact (((TB.out.setCell (p := ⟨B, 0, none⟩) (Nat.le_refl _) _).setCell (p := ⟨B, 1, none⟩) (Nat.le_refl _) _).setCell (p := ⟨B, 2, none⟩) (Nat.le_refl _) _).setCell (p := ⟨B, 3, none⟩) (Nat.le_refl _) _
         ·
          have hT2 : Hid (T = ((acc ++ [(1, s.extract k (k + q), k)]) ++ (lexG s f (k + q) false).1, (lexG s f (k + q) false).2)) := by
           have h1 := lexG_tok s f k false k q hka hend (by rw [hq]) (by omega) (by rw [hq]; simp [tooLong]; omega)
           have h2 := hTT.out
           rw [h1, hq] at h2
           unfold Hid
           rw [h2]
           simp
          clear hq
          go_wp2_with (at_builtin; refine wpList_append_own _ rfl _ _ 83 rfl (B + 1) 119 i0 (.agg #[.int .i64 0, .string ⟨#[]⟩, .int .i64 0]) 3 32 Try.underlying83 hi0 hz0 hz1 hz2 rfl (by decide) _ acc.length (cellsOf acc) rfl (hown.out.alloc _) ⟨wr.heap.size, 0, none⟩ 1 1 [.int .i64 1, .string (s.extract k (k + q)), .int .i64 k] rfl rfl (World.news_of_block (cs := #[.int .i64 1, .string (s.extract k (k + q)), .int .i64 k]) (t := 119) (fr := (0, 0)) (heap_alloc_new wr _)) (by simp [Value.oneCell']) (by simp [maxLen]; omega) (by omega) (by simp; omega) ?_; intro v' w1 hown1 hgrow _)
          have R0 : Hid (w1.heap[B]? = some (.cells #[.int .i64 0, .int .i64 0, .int .i64 0, .string ⟨#[]⟩] 33)) := (hgrow.block B (by simp; omega) (fun e => by have := (hown.out.lt _ e.symm).1; omega)).trans (blk_alloc b0.out)
          have RB : Hid (Below B w w1) := (hB.out.alloc (by omega) _).grown hgrow (by simp; omega) (fun r e => by have := (hown.out.lt _ e).1; omega)
          have RS : B + 1 ≤ w1.heap.size := by have := hgrow.size; simp at this; omega
          have RO := hide hown1
          clear hown1 hgrow
          go_wp2_with fail
          go_roundw
          case rel => exact ⟨k + q, f, acc ++ [(1, s.extract k (k + q), k)], false, _, rfl, by omega, by omega, by simp; omega, rfl, by go_num, R0, by
            unfold Hid
            rw [cellsOf_snoc, List.length_append]
            exact RO.out, RB, RS, hT2⟩
          case measure => simp [intOf]; omega
  ·
   have hTe : Hid (lexG s (s.size + 1) 0 false = (acc, none)) := by
    have hz : skipLen (s.data.toList.drop k) b = 0 := by rw [List.drop_eq_nil_of_le (by simp; omega)]; cases b <;> rfl
    have h1 := lexG_end s f k b k (by omega) (by omega)
    have h2 := hTT.out
    rw [h1] at h2
    unfold Hid
    rw [← HT.out, h2]
    simp
   have c10 := blk_cell b0.out 0
   have c11 := blk_cell b0.out 1
   have c12 := blk_cell b0.out 2
   have c13 := blk_cell b0.out 3
   have f10 := blk_free b0.out 0
   have f11 := blk_free b0.out 1
   have f12 := blk_free b0.out 2
   have f13 := blk_free b0.out 3
   go_wp2_with fail
   have z := fun i => blk_cell (blk_set (blk_set (blk_set (blk_set b0.out 0 (.int .i64 0)) 1 (.int .i64 0)) 2 (.int .i64 0)) 3 (.string ⟨#[]⟩)) i
   have z0 := z 0
   have z1 := z 1
   have z2 := z 2
   have z3 := z 3
   clear z
   refine bodyPost_ret (v := .tuple #[_, .agg #[.int .i64 0, .int .i64 0, .int .i64 0, .string ⟨#[]⟩]]) (by simp [results, Try.results35, go_sem, z0, z1, z2, z3]; rfl) rfl ⟨?_, ?_⟩
   ·
    rw [EB.out]
    exact splitR_done s (B + 1) _ _ acc hTe.out (owns_setCell (owns_setCell (owns_setCell (owns_setCell hown.out (by omega) _) (by omega) _) (by omega) _) (by omega) _)
   ·
    rw [EB.out]
    exact (((hB.out.setCell (p := ⟨B, 0, none⟩) (Nat.le_refl _) _).setCell (p := ⟨B, 1, none⟩) (Nat.le_refl _) _).setCell (p := ⟨B, 2, none⟩) (Nat.le_refl _) _).setCell (p := ⟨B, 3, none⟩) (Nat.le_refl _) _
end Go.Proofs.Ytboeeaekhijboaa
