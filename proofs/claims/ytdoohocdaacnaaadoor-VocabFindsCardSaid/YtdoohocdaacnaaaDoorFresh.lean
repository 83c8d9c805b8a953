/- Fresh; what a nil index says. -/
import Derived.Test.YtdoohocdaacnaaaDoorType
import Derived.Test.YtdoohocdaacnaaaDoorShelf
namespace Go.Proofs.YtdoohocdaacnaaaDoor
open Go.RowKit Go.Maps
set_option linter.unusedVariables false
set_option linter.unusedSimpArgs false

/-- the i-th try -/
def tryF (s : ByteArray) (i : Nat) : ByteArray := if i = 0 then s else s ++ ⟨(Lib.decDigits i).toArray⟩
/-- what Fresh says, the n-th try being the first that is no name -/
def freshV (s : ByteArray) (n : Nat) : ByteArray × Int := if wordB s = false then (⟨#[]⟩, 3) else if 30 < (tryF s n).size then (⟨#[]⟩, 2) else (tryF s n, 0)

theorem decDigits_len (i : Nat) (h : i < 100) : (Lib.decDigits i).length ≤ 2 := by
  have hc : ((List.range 100).all fun j => decide ((Lib.decDigits j).length ≤ 2)) = true := by kernel_rfl
  rw [List.all_eq_true] at hc
  simpa using hc i (List.mem_range.2 h)
theorem tryF_size (s : ByteArray) (i : Nat) (h : i < 100) : (tryF s i).size ≤ s.size + 2 := by
  unfold tryF
  split
  · omega
  · rw [ByteArray.size_append]
    have h2 := decDigits_len i h
    have h3 : (⟨(Lib.decDigits i).toArray⟩ : ByteArray).size = (Lib.decDigits i).length := by simp [ByteArray.size]
    omega

theorem fresh_nil (s : ByteArray) (w : World) : Calls Tryd.prog 15 #[.pointer none, .string s] w fun e w' => e = .returned (.tuple #[.string ⟨#[]⟩, .int .i64 13]) ∧ w = w' := by
  go_enter Tryd.func15, Tryd.ntmps15
  go_wp2_with fail
  go_ret2
  exact ⟨rfl, rfl⟩
theorem types_nil (w : World) : Calls Tryd.prog 28 #[.pointer none] w fun e w' => e = .returned (.slice none 0 0) ∧ w = w' := by
  go_enter Tryd.func28, Tryd.ntmps28
  go_wp2_with fail
  go_ret
  exact ⟨rfl, rfl⟩

theorem one_row (w : World) (s : ByteArray) (hs : s.size ≤ maxLen) : Strs (w.alloc (.cells #[.string s] 9)) (fun x => x = w.heap.size) (.slice (some ⟨w.heap.size, 0, none⟩) 1 1) [s] :=
  ⟨fun x hx => by rw [List.mem_singleton.1 hx]; exact hs, _, _, rfl, Or.inr ⟨_, _, rfl, rfl, fun i hi => by
    have : i = 0 := by simp at hi; omega
    subst this
    exact blk_cell (blk_new w _) 0⟩⟩

set_option maxRecDepth 100000 in
set_option maxHeartbeats 8000000 in
theorem fresh_any (b L : Nat) (bs : List ByteArray) (cs : List Cn) (hbl : bs.length ≤ 1000) (hcl : cs.length ≤ 1000) (s : ByteArray) (hs : s.size ≤ 1000000) (n : Nat) (hn : n < 99) (hno : isN bs cs (tryF s n) = false) (hall : ∀ j, j < n → isN bs cs (tryF s j) = true) (w : World) (h : Xs w L b bs cs) :
    Calls Tryd.prog 15 #[.pointer (some ⟨b, 0, none⟩), .string s] w fun e w' => e = .returned (.tuple #[.string (freshV s n).1, .int .i64 (freshV s n).2]) ∧ Xs w' L b bs cs ∧ Chg (fun x => x = b) w w' := by
  have wd := hide (isWord_any s (by omega) w)
  have HX := hide h
  have HN := hide hno
  have HA := hide hall
  clear h hno hall
  cases hw : wordB s
  · have E : Hid (freshV s n = (⟨#[]⟩, 3)) := hide (by unfold freshV; rw [if_pos hw])
    rw [hw] at wd
    clear hw
    go_enter Tryd.func15, Tryd.ntmps15
    go_wp2_with fail
    refine wd.out.mono ?_
    rintro e w' ⟨rfl, rfl⟩
    go_wp2_with fail
    go_ret2
    exact ⟨by rw [E.out]; rfl, HX.out, Chg.refl _ _⟩
  · have HW := hide hw
    rw [hw] at wd
    clear hw
    go_enter Tryd.func15, Tryd.ntmps15
    go_wp2_with fail
    refine wd.out.mono ?_
    rintro e w' ⟨rfl, rfl⟩
    go_wp2_with fail
    go_loopw [6, 7] (fun sv iv wr => ∃ k : Nat, k ≤ n ∧ sv = .string (tryF s k) ∧ iv = .int .i64 ((k + 1 : Nat) : Int) ∧ Hid (Xs wr L b bs cs) ∧ Hid (Chg (fun x => x = b) w wr)) (fun _ iv _ => n + 1 - (intOf iv).toNat)
    case atStart => exact ⟨0, Nat.zero_le _, by unfold tryF; rfl, rfl, HX, hide (Chg.refl _ _)⟩
    case round =>
      clear HX wd
      obtain ⟨k, hk, rfl, rfl, hX, hC⟩ := hrel
      have sz := tryF_size s k (by omega)
      have GA := al wr (.cells #[.string (tryF s k)] 9)
      have hs1 := hide (has_any b L bs cs hbl hcl _ [tryF s k] (by simp) _ _ (fun x (hx : x = wr.heap.size) => by have := hX.out.lt; omega) (one_row wr (tryF s k) (by unfold maxLen; omega)) (hX.out.chg GA (fun _ _ h => h)))
      have C1 := hide (hC.out.trans GA.none)
      have it := hide (fun w => Go.Proofs.Tryd.strconv_Itoa_small (k + 1) (by omega) w)
      clear GA hX hC
      by_cases hkn : k < n
      · have hv := HA.out k hkn
        have et : tryF s (k + 1) = s ++ ⟨(Lib.decDigits (k + 1)).toArray⟩ := by unfold tryF; rw [if_neg (by omega)]
        have ET := hide et
        have hcap : ¬ 9223372036854775807 < s.size + (Lib.decDigits (k + 1)).length := by have := decDigits_len (k + 1) (by omega); omega
        clear et
        rw [List.all_cons, List.all_nil, hv] at hs1
        clear hv
        generalize tryF s k = sk at *
        go_wp2_with fail
        refine hs1.out.mono ?_
        rintro e w2 ⟨rfl, hX2, hC2⟩
        have X2 := hide hX2
        have C2 := hide (C1.out.trans hC2)
        clear hX2 hC2
        go_wp2_with fail
        refine (it.out _).mono ?_
        rintro e w3 ⟨rfl, rfl⟩
        go_wp2_with fail
        go_roundw
        case rel => exact ⟨k + 1, by omega, by rw [ET.out], by go_num, X2, C2⟩
        case measure => simp [intOf]; omega
      · have hkn : k = n := by omega
        subst hkn
        rw [List.all_cons, List.all_nil, HN.out] at hs1
        by_cases hl : 30 < (tryF s k).size
        · have E : Hid (freshV s k = (⟨#[]⟩, 2)) := hide (by unfold freshV; rw [if_neg (by rw [HW.out]; decide), if_pos hl])
          clear HN HA
          generalize tryF s k = sk at *
          have hl' : (30 : Int) < (sk.size : Int) := by omega
          go_wp2_with fail
          refine hs1.out.mono ?_
          rintro e w2 ⟨rfl, hX2, hC2⟩
          have X2 := hide hX2
          have C2 := hide (C1.out.trans hC2)
          clear hX2 hC2
          go_wp2_with fail
          go_ret2
          exact ⟨by rw [E.out]; rfl, X2.out, C2.out⟩
        · have E : Hid (freshV s k = (tryF s k, 0)) := hide (by unfold freshV; rw [if_neg (by rw [HW.out]; decide), if_neg hl])
          clear HN HA
          generalize tryF s k = sk at *
          have hl' : ¬ (30 : Int) < (sk.size : Int) := by omega
          go_wp2_with fail
          refine hs1.out.mono ?_
          rintro e w2 ⟨rfl, hX2, hC2⟩
          have X2 := hide hX2
          have C2 := hide (C1.out.trans hC2)
          clear hX2 hC2
          go_wp2_with fail
          go_ret2
          exact ⟨by rw [E.out]; rfl, X2.out, C2.out⟩
end Go.Proofs.YtdoohocdaacnaaaDoor
