/- The document's Fresh. -/
import Derived.Test.YtdoohocdaacnaaaDoorTryLaw
import Derived.Test.YtdoohocdaacnaaaDoorNumber
import Derived.Test.YtdoohocdaacnaaaDoorLexR5
import Derived.Test.YtdoohocdaacnaaaDoorKnown
namespace Go.Proofs.YtdoohocdaacnaaaDoor
open Go.RowKit Go.Maps
set_option linter.unusedVariables false
set_option linter.unusedSimpArgs false

theorem tryF_num (s : ByteArray) (i : Nat) : tryF s (i + 1) = s ++ numTxt ((i + 1 : Nat) : Int) := by
  unfold tryF numTxt
  rw [if_neg (by omega), Lib.itoa_nonneg]
theorem Cns.grow' {w w' : World} {X : Nat → Prop} {v : Value} {l : List Cn} (h : Cns w X v l) (g : Chg (fun _ => False) w w') : Cns w' X v l := h.chg g (fun _ _ h => h)

set_option maxRecDepth 100000 in
set_option maxHeartbeats 16000000 in
theorem refFresh_any (bs : List ByteArray) (cs : List Cn) (hbl : bs.length ≤ 100) (hcl : cs.length ≤ 100) (s : ByteArray) (hs : s.size ≤ 1000) (n : Nat) (hn : n < 99) (hno : isN bs cs (tryF s n) = false) (hall : ∀ j, j < n → isN bs cs (tryF s j) = true)
    (ba : Option Addr) (bc : Nat) (ca : Option Addr) (cc : Nat) (X : Nat → Prop) (w : World) (hb : Strs w X (.slice ba bs.length bc) bs) (hc : Cns w X (.slice ca cs.length cc) cs) :
    Calls Tryd.prog 16 #[.agg #[.slice ba bs.length bc, .slice ca cs.length cc], .string s] w fun e w' => e = .returned (.tuple #[.string (freshV s n).1, .int .i64 (freshV s n).2]) ∧ Chg (fun _ => False) w w' := by
  have G1 := hide (al w (.cells #[.slice ba bs.length bc, .slice ca cs.length cc] 39))
  have BX := blk_new w (.cells #[.slice ba bs.length bc, .slice ca cs.length cc] 39)
  have HB := hide (hb.chg G1.out (fun _ _ h => h))
  have HC := hide (hc.chg G1.out (fun _ _ h => h))
  have HBX := hide BX
  have HN := hide hno
  have HA := hide hall
  have HSZ := hide (fun i (h : i < 100) => tryF_size s i h)
  clear hb hc BX hno hall
  have is := hide (isR_any s (by omega) (w.alloc (.cells #[.slice ba bs.length bc, .slice ca cs.length cc] 39)))
  go_enter Tryd.func16, Tryd.ntmps16
  go_wp2_with fail
  generalize w.alloc (.cells #[.slice ba bs.length bc, .slice ca cs.length cc] 39) = w1 at *
  obtain ⟨P, hP⟩ : ∃ P, w.heap.size = P := ⟨_, rfl⟩
  rw [hP] at HBX ⊢
  clear hP
  refine is.out.mono ?_
  rintro e w2 ⟨rfl, g2⟩
  have GW := hide (G1.out.trans g2)
  have B2 := hide (g2.blk (fun h => h) HBX.out)
  have HB2 := hide (HB.out.chg g2 (fun _ _ h => h))
  have HC2 := hide (HC.out.grow' g2)
  clear is g2 HBX HB HC G1
  cases hw : wordB s
  · have E : Hid (freshV s n = (⟨#[]⟩, 3)) := hide (by unfold freshV; rw [if_pos hw])
    clear hw
    go_wp2_with fail
    go_ret2
    exact ⟨by rw [E.out]; rfl, GW.out⟩
  · have HW := hide hw
    clear hw
    go_wp2_with fail
    go_loopw [6, 7] (fun sv iv wr => ∃ i : Nat, i ≤ n ∧ sv = .string (tryF s i) ∧ iv = .int .i64 ((i + 1 : Nat) : Int) ∧ Hid (Chg (fun _ => False) w2 wr)) (fun _ iv _ => (n + 1) - (intOf iv).toNat)
    case atStart => exact ⟨0, Nat.zero_le _, by simp [tryF], rfl, Chg.refl _ _⟩
    case round =>
      obtain ⟨i, hi, rfl, rfl, hC⟩ := hrel
      have B3 := hC.out.blk (fun h => h) B2.out
      have y0 := blk_cell B3 0
      have y1 := blk_cell B3 1
      simp only [List.getElem?_toArray, List.getElem?_cons_zero, List.getElem?_cons_succ] at y0 y1
      have HB3 := hide (HB2.out.chg hC.out (fun _ _ h => h))
      have HC3 := hide (HC2.out.grow' hC.out)
      have GW3 := hide (GW.out.trans hC.out)
      have TS := HSZ.out i (by omega)
      have IN := hide (isN_iff bs cs (tryF s i))
      have PB := hide (posL_iff (tryF s i) bs)
      have PC := hide (posL_iff (tryF s i) (cs.map (·.1)))
      have NX := hide (tryF_num s i)
      have HI : Hid (i < n → isN bs cs (tryF s i) = true) := hide (fun h => HA.out i h)
      have HE : Hid (i = n → isN bs cs (tryF s i) = false) := hide (fun h => by rw [h]; exact HN.out)
      have FV : Hid (i = n → freshV s n = if 30 < (tryF s i).size then (⟨#[]⟩, 2) else (tryF s i, 0)) := hide (fun h => by rw [h]; unfold freshV; rw [if_neg (by rw [HW.out]; decide)])
      clear B3
      generalize tryF s i = x at *
      have rb := hide (refBase_any bs cs hbl hcl x ba bc ca cc X wr HB3.out HC3.out)
      go_wp2_with fail
      refine rb.out.mono ?_
      rintro e w4 ⟨rfl, g4⟩
      have y04 := g4.cell (fun h => h) y0
      have y14 := g4.cell (fun h => h) y1
      have GC4 := hide (hC.out.trans g4)
      have GW4 := hide (GW3.out.trans g4)
      have rc := hide (refConst_any bs cs hbl hcl x ba bc ca cc X w4 (HB3.out.chg g4 (fun _ _ h => h)) (HC3.out.grow' g4))
      clear g4 y0 y1 hC GW3 rb HB3 HC3
      generalize posL x bs 0 = pb at *
      generalize posL x (cs.map (·.1)) 0 = pc at *
      by_cases hin : i < n
      · have hisn := HI.out hin
        have hor := IN.out.1 hisn
        have num := hide (fun w => number_pos (i + 1) (by omega) w)
        have NSZ : Hid ((numTxt ((i + 1 : Nat) : Int)).size ≤ 2) := hide (by
          have h1 := HSZ.out (i + 1) (by omega)
          rw [NX.out, ByteArray.size_append] at h1
          omega)
        by_cases hpb : 0 ≤ pb
        · clear hor hisn IN
          go_wp2_with fail
          refine (num.out _).mono ?_
          rintro e w5 ⟨rfl, g5⟩
          have GC5 := hide (GC4.out.trans ((Chg.of_below g5).mono (fun x hx h => by omega) : Chg (fun _ => False) w4 w5))
          clear g5
          have NZ := NSZ.out
          have NX' := NX.out
          rw [NX'] at NX
          obtain ⟨nt, hnt⟩ : ∃ nt, numTxt ((i + 1 : Nat) : Int) = nt := ⟨_, rfl⟩
          rw [hnt] at NZ ⊢
          have bnd : ¬ 9223372036854775807 < s.size + nt.size := by omega
          rw [hnt] at NX'
          have HX := hide NX'
          clear NX NX' NSZ num hnt
          go_wp2_with fail
          go_roundw
          case rel => exact ⟨i + 1, by omega, by rw [HX.out], by go_num, GC5⟩
          case measure => simp [intOf]; omega
        · have hmem : x ∈ cs.map (·.1) := by
            rcases hor with h | h
            · exact absurd (PB.out.2 h) hpb
            · exact h
          have hpc : 0 ≤ pc := PC.out.2 hmem
          clear hor hisn IN hmem
          go_wp2_with fail
          refine rc.out.mono ?_
          rintro e w4b ⟨rfl, g4b⟩
          have GC4b := hide (GC4.out.trans g4b)
          clear g4b
          go_wp2_with fail
          refine (num.out _).mono ?_
          rintro e w5 ⟨rfl, g5⟩
          have GC5 := hide (GC4b.out.trans ((Chg.of_below g5).mono (fun x hx h => by omega) : Chg (fun _ => False) w4b w5))
          clear g5
          have NZ := NSZ.out
          have NX' := NX.out
          rw [NX'] at NX
          obtain ⟨nt, hnt⟩ : ∃ nt, numTxt ((i + 1 : Nat) : Int) = nt := ⟨_, rfl⟩
          rw [hnt] at NZ ⊢
          have bnd : ¬ 9223372036854775807 < s.size + nt.size := by omega
          rw [hnt] at NX'
          have HX := hide NX'
          clear NX NX' NSZ num hnt
          go_wp2_with fail
          go_roundw
          case rel => exact ⟨i + 1, by omega, by rw [HX.out], by go_num, GC5⟩
          case measure => simp [intOf]; omega
      · have hie : i = n := by omega
        have hf := HE.out hie
        have hnot : ¬ (x ∈ bs ∨ x ∈ cs.map (·.1)) := fun h => by rw [IN.out.2 h] at hf; cases hf
        have hpb : ¬ 0 ≤ pb := fun h => hnot (Or.inl (PB.out.1 h))
        have hpc : ¬ 0 ≤ pc := fun h => hnot (Or.inr (PC.out.1 h))
        have FVV := FV.out hie
        clear hf hnot IN hie
        by_cases hsz : 30 < x.size
        · have h30 : (30 : Int) < (x.size : Int) := by omega
          have E : Hid (freshV s n = (⟨#[]⟩, 2)) := hide (by rw [FVV, if_pos hsz])
          clear FVV
          go_wp2_with fail
          refine rc.out.mono ?_
          rintro e w5 ⟨rfl, g5⟩
          have GW5 := hide (GW4.out.trans g5)
          clear g5
          go_wp2_with fail
          go_ret2
          exact ⟨by rw [E.out]; rfl, GW5.out⟩
        · have h30 : ¬ (30 : Int) < (x.size : Int) := by omega
          have E : Hid (freshV s n = (x, 0)) := hide (by rw [FVV, if_neg hsz])
          clear FVV
          go_wp2_with fail
          refine rc.out.mono ?_
          rintro e w5 ⟨rfl, g5⟩
          have GW5 := hide (GW4.out.trans g5)
          clear g5
          go_wp2_with fail
          go_ret2
          exact ⟨by rw [E.out]; rfl, GW5.out⟩
end Go.Proofs.YtdoohocdaacnaaaDoor
