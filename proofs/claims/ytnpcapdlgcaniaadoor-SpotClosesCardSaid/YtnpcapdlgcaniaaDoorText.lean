/- A path as a text: spot.Text. -/
import Derived.Test.YtnpcapdlgcaniaaDoorClones
import Derived.Test.YtnpcapdlgcaniaaDoorShelf
import Derived.Deep.AppendLies
import Derived.Deep.CutBlock
namespace Go.Proofs.YtnpcapdlgcaniaaDoor
open Go.RowKit
set_option linter.unusedVariables false
set_option linter.unusedSimpArgs false

def dotB : ByteArray := ⟨#[46]⟩
def itoaB (n : Int) : ByteArray := ⟨(Lib.itoa n).toArray⟩
/-- a path's text -/
def textB (l : List Int) : ByteArray := if l = [] then ⟨#[45]⟩ else ⟨(Lib.join (l.map Lib.itoa) [46]).toArray⟩
/-- strconv.Itoa has its contract at this number, in whatever world comes of this one by new blocks -/
def ItoaAt (w : World) (n : Int) : Prop := ∀ w', Chg (fun _ => False) w w' → Calls Tryd.prog 62 #[.int .i64 n] w' fun e w'' => e = .returned (.string (itoaB n)) ∧ Chg (fun _ => False) w' w''
theorem itoa_small (i : Nat) (hi : i < 100) (w : World) : ItoaAt w (i : Int) := fun w' _ => (Tryd.strconv_Itoa_small i hi w').mono fun e w'' h => ⟨by
  rw [h.1]
  have : Lib.itoa (i : Int) = Lib.decDigits i := by unfold Lib.itoa; simp
  unfold itoaB
  rw [this], by rw [h.2]; exact Chg.refl _ _⟩
theorem infoS9 : (Tryd.prog.info? 9).map (fun i => (i.zero, i.size, i.bytes)) = some (some (.string ⟨#[]⟩), 1, 16) := by kernel_rfl
/-- what the loop keeps -/
def TxInv (w wr : World) (l : List Int) (u : Value) (i : Nat) : Prop :=
  Hid (wr.ownsRow w.heap.size 9 1 u i ((l.take i).map fun n => Value.string (itoaB n))) ∧ Hid (Chg (fun _ => False) w wr)

set_option maxRecDepth 100000 in
set_option maxHeartbeats 8000000 in
theorem text_any (l : List Int) (hl : l.length ≤ 100000) (hjl : (Lib.join (l.map Lib.itoa) [46]).length ≤ 140737488355328) (v : Value) (X : Nat → Prop) (w : World) (hX : ∀ x, X x → x < w.heap.size) (hv : Il w X v l) (hI : ∀ n ∈ l, ItoaAt w n) :
    Calls Tryd.prog 37 #[v] w fun e w' => e = .returned (.string (textB l)) ∧ Chg (fun _ => False) w w' := by
  obtain ⟨i0, hi0, hz0, hz1, hz2⟩ := info_parts infoS9
  obtain ⟨va, vc, rfl, _⟩ := id hv
  have HV := hide hv
  have HI := hide hI
  have HJ := hide hjl
  have HL := hide hl
  clear hv hI hjl
  by_cases h0 : l = []
  · subst h0
    have HX : Hid (textB [] = ⟨#[45]⟩) := hide rfl
    clear HV HI HJ HL
    go_enter Tryd.func37, Tryd.ntmps37
    go_wp2_with fail
    go_ret
    exact ⟨by rw [HX.out]; rfl, Chg.refl _ _⟩
  · have e0 : ((l.length : Int) == 0) = false := by
      simp
      exact fun h => h0 h
    have HT : Hid (textB l = ⟨(Lib.join (l.map Lib.itoa) [46]).toArray⟩) := hide (by unfold textB; rw [if_neg h0])
    have H0 := hide h0
    clear h0 hl
    generalize textB l = TX at *
    go_enter Tryd.func37, Tryd.ntmps37
    go_upto_block 0 with fail
    clear e0
    go_wp2_with fail
    go_loopw [3, 11] (fun uv iv wr => ∃ (i : Nat), i ≤ l.length ∧ iv = .int .i64 i ∧ Hid (TxInv w wr l uv i)) (fun _ iv _ => l.length - (intOf iv).toNat)
    case atStart => exact ⟨0, Nat.zero_le _, rfl, hide ⟨hide (World.ownsRow_nil _ _ _ _), hide (Chg.refl _ _)⟩⟩
    case round =>
      obtain ⟨i, hi, rfl, hIN⟩ := hrel
      obtain ⟨hO, hC⟩ := hIN.out
      clear hIN
      by_cases hlt : i < l.length
      · have i1 : (0 : Int) ≤ (i : Int) := by omega
        have i2 : (i : Int) < (l.length : Int) := by omega
        have i3 : l.length ≤ 100000 := HL.out
        obtain ⟨la, lc, hlv, hl⟩ := HV.out
        rcases hl with h0 | ⟨g, off, rfl, hg, hl⟩
        · exact absurd h0 H0.out
        injection hlv with e1 e2 e3
        subst e1 e3
        have d0 := hC.out.cell (fun h => h) (hl i hlt)
        have II := hide (HI.out l[i] (List.getElem_mem hlt) wr hC.out)
        have ET : Hid ((l.take (i + 1)).map (fun n => Value.string (itoaB n)) = (l.take i).map (fun n => Value.string (itoaB n)) ++ [Value.string (itoaB l[i])]) := hide (by rw [List.take_succ_eq_append_getElem hlt, List.map_append]; rfl)
        have LN : Hid (((l.take i).map fun n => Value.string (itoaB n)).length = i * 1) := hide (by simp; omega)
        clear hl
        generalize l[i] = n at *
        generalize (l.take i).map (fun n => Value.string (itoaB n)) = ROW at *
        generalize itoaB n = x at *
        go_wp2_with fail
        refine II.out.mono ?_
        rintro e w5 ⟨rfl, g5⟩
        have GA := al w5 (.cells #[.string x] 9)
        have O9 := hide (own_chg (own_chg hO.out g5 (fun _ _ h => h)) GA (fun _ _ h => h))
        have NB := hide (World.news_of_block (cs := #[.string x]) (t := 9) (fr := (0, 0)) (heap_alloc_new w5 _))
        have G9 := hide ((hC.out.trans g5).trans GA)
        have P9 : w.heap.size ≤ (w5.alloc (.cells #[.string x] 9)).heap.size := G9.out.size
        obtain ⟨ua, uc, hue⟩ : ∃ ua uc, u3 = Value.slice ua i uc := by
          rcases hO.out.2 with ⟨h1, h2⟩ | ⟨g', cap2, cur, h1, _⟩
          · exact ⟨_, _, by rw [h1, h2]⟩
          · exact ⟨_, _, h1⟩
        subst hue
        clear g5 GA II hO hC
        go_wp2_with (at_builtin; refine wpList_append_lies _ rfl _ _ 107 rfl w.heap.size 9 i0 (.string ⟨#[]⟩) 1 16 Tryd.underlying107 hi0 ‹_› hz1 hz2 rfl (by decide) _ i ROW rfl O9.out ⟨w5.heap.size, 0, none⟩ 1 1 [.string x] rfl rfl NB.out (by simp [Value.oneCell']) (by omega) (by simp [maxLen]; omega) (by omega) P9 (w5.heap.size + 1) (by simp) ?_; intro gg cap2 w10 hown hgrow hgat hglt)
        have g10 := own_grown O9.out hgrow
        have F9 : Hid (TxInv w w10 l (.slice (some ⟨gg, 0, none⟩) (i + 1) cap2) (i + 1)) := hide ⟨hide (by rw [ET.out]; exact hown), hide (((G9.out.mono (T := fun x => w.heap.size ≤ x) (fun x _ h => h.elim)).trans g10).mono (fun x hx e => by omega))⟩
        clear hown hgrow hgat hglt g10 O9 G9
        go_wp2_with fail
        go_roundw
        case rel => exact ⟨i + 1, by omega, by go_num, F9⟩
        case measure => simp [intOf]; omega
      · have hif : i = l.length := by omega
        have i2 : decide (i < l.length) = false := by simp [hlt]
        subst hif
        have OW : Hid (wr.ownsRow w.heap.size 9 1 u3 l.length (l.map fun n => Value.string (itoaB n))) := hide (by have h := hO.out; rw [List.take_length] at h; exact h)
        obtain ⟨g, cap2, hue, hcell, hgl, hcap⟩ : ∃ g cap2, u3 = .slice (some ⟨g, 0, none⟩) l.length cap2 ∧ (∀ (j : Nat) x, (l.map itoaB)[j]? = some x → wr.cell? ⟨g, 0 + j, none⟩ = some (.string x)) ∧ g < wr.heap.size ∧ l.length ≤ cap2 := by
          rcases OW.out.2 with ⟨h1, h2⟩ | ⟨g', cap2, cur, h1, h3⟩
          · exact absurd (List.eq_nil_of_length_eq_zero h2) H0.out
          · refine ⟨g', cap2, h1, fun j x hx => ?_, (World.ownsRow.lt OW.out g' (by rw [h1]; rfl)).2, h3.2.2.1⟩
            have hc := World.ownsRow.cells OW.out (g := g') (by rw [h1]; rfl) j (.string x) (by
              rw [List.getElem?_map] at hx ⊢
              cases e : l[j]? with
              | none => rw [e] at hx; cases hx
              | some n => rw [e] at hx; cases hx; rfl)
            rw [add_at] at hc
            exact hc
        have em : (l.map itoaB).map (·.data.toList) = l.map Lib.itoa := by
          rw [List.map_map]
          exact List.map_congr_left (fun n _ => by simp [itoaB])
        have ln : (l.map itoaB).length = l.length := by simp
        have JN := hide (Tryd.strings_Join g 0 cap2 (l.map itoaB) dotB wr hcell hgl (by rw [ln]; have := HL.out; omega) (by rw [ln]; exact hcap) (by rw [em]; exact HJ.out))
        rw [em, ln] at JN
        have hd : dotB.data.toList = [46] := rfl
        rw [hd] at JN
        have hdb : dotB = ⟨#[46]⟩ := rfl
        rw [hdb] at JN
        clear em ln hcell hgl hcap hO OW hd hdb HV HI
        subst hue
        go_wp2_with fail
        refine JN.out.mono ?_
        rintro e w5 ⟨rfl, g5⟩
        have GF : Hid (Chg (fun _ => False) w w5) := hide (((hC.out.mono (T := fun x => w.heap.size ≤ x) (fun x _ h => h.elim)).trans ((Chg.of_below g5).mono (fun x _ h => by have := hC.out.size; omega))).mono (fun x hx e => by omega))
        clear g5
        go_wp2_with fail
        go_ret
        exact ⟨by rw [HT.out]; rfl, GF.out⟩
end Go.Proofs.YtnpcapdlgcaniaaDoor
