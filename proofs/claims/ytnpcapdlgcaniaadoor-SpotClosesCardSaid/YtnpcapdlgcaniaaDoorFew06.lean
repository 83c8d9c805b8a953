/- The document's few, Few of terms, and L06.Few: has a term few terms and types? -/
import Derived.Test.YtnpcapdlgcaniaaDoorSize04
import Derived.Test.YtnpcapdlgcaniaaDoorClones
import Derived.Deep.DeepCutAuto
import Derived.Deep.CutBlock
namespace Go.Proofs.YtnpcapdlgcaniaaDoor
open Go.RowKit
set_option linter.unusedVariables false
set_option linter.unusedSimpArgs false

theorem Tms.drop_size (f : Tms) (i : Nat) (h : i < f.toL.length) : (f.drop i).size = (f.toL[i]).bs.size + (f.toL[i]).ag.size + (f.drop (i + 1)).size + 1 := by
  rw [Tms.drop_get f i h]
  rfl
/-- what few says: the count, if it is at most 150 -/
def FewP (b : Fs) (f : Tms) (d : Nat) (n : Nat) : Prop := 1 ≤ n ∧ n ≤ 300 + 150 * d ∧ (n ≤ 150 → n = 1 + b.size + f.size)
def FewC (f : Tms) : Prop := ∀ (b : Fs) (k i : Int) (vb v : Value) (X : Nat → Prop) (w : World) (d : Nat), d ≤ 100 → (∀ x, X x → x < w.heap.size) → Ts w X vb b → Tr w X v f →
  Calls Tryd.prog 67 #[.agg #[vb, .int .i64 k, .int .i64 i, v], .int .i64 150, .int .i64 d] w fun e w' => (∃ n : Nat, e = .returned (.int .i64 n) ∧ FewP b f d n) ∧ Chg (fun _ => False) w w'
/-- what the first loop keeps -/
def FewB (w wr : World) (P : Nat) (c : Array Value) (b : Fs) (i n : Nat) : Prop :=
  Hid (wr.heap[P]? = some (.cells c 27)) ∧ Hid (Chg (fun _ => False) w wr) ∧ Hid (n + (b.from i).size = 1 + b.size)
/-- what the second loop keeps -/
def FewA (w wr : World) (P : Nat) (c : Array Value) (b : Fs) (f : Tms) (i n : Nat) : Prop :=
  Hid (wr.heap[P]? = some (.cells c 27)) ∧ Hid (Chg (fun _ => False) w wr) ∧ Hid (n ≤ 150 → n + (f.drop i).size = 1 + b.size + f.size)

set_option maxRecDepth 100000 in
set_option maxHeartbeats 16000000 in
theorem few06_step (N : Nat) (ih : ∀ (f : Tms), f.size < N → FewC f) (f : Tms) (hf : f.size ≤ N) : FewC f := by
  intro b k j vb v X w d hd hB hvb hv
  have IH := hide ih
  obtain ⟨ba, bc, rfl, _⟩ := id hvb
  obtain ⟨a, cap, rfl, _⟩ := id hv
  have HV := hide hv
  have HVB := hide hvb
  have HB := hide hB
  have HF := hide hf
  have htl := Tms.toL_len f
  have hbl := Fs.toL_len b
  have G1 := hide (al w (.cells #[.slice ba b.len bc, .int .i64 k, .int .i64 j, .slice a f.len cap] 27))
  have BX := hide (blk_new w (.cells #[.slice ba b.len bc, .int .i64 k, .int .i64 j, .slice a f.len cap] 27))
  clear hv hvb ih hB hf
  go_enter Tryd.func67, Tryd.ntmps67
  cases d with
  | zero =>
    go_wp2_with fail
    go_ret
    exact ⟨⟨151, rfl, by omega, by omega, by omega⟩, G1.out⟩
  | succ d =>
    have z1 : ¬ ((d : Int) + 1 ≤ 0) := by omega
    have z2 : ((d + 1 : Nat) : Int) = (d : Int) + 1 := by omega
    rw [z2]
    go_upto_block 0 with fail
    obtain ⟨P, hP⟩ : ∃ P, w.heap.size = P := ⟨_, rfl⟩
    have HP := hide hP
    rw [hP] at BX ⊢
    clear hP
    generalize w.alloc (.cells #[.slice ba b.len bc, .int .i64 k, .int .i64 j, .slice a f.len cap] 27) = w1 at *
    go_cut [7] (fun s7 wx => ∃ n : Nat, s7 = .int .i64 n ∧ 1 ≤ n ∧ n ≤ 300 ∧ Hid (n ≤ 150 → n = 1 + b.size) ∧ Hid (wx.heap[P]? = some (.cells #[.slice ba b.len bc, .int .i64 k, .int .i64 j, .slice a f.len cap] 27)) ∧ Hid (Chg (fun _ => False) w wx))
    case first =>
      go_wp2_with fail
      go_loopw [7, 8] (fun nv iv wr => ∃ (i n : Nat), i ≤ b.len ∧ nv = .int .i64 n ∧ iv = .int .i64 i ∧ i + 1 ≤ n ∧ n ≤ 300 ∧ Hid (FewB w wr P #[.slice ba b.len bc, .int .i64 k, .int .i64 j, .slice a f.len cap] b i n)) (fun _ iv _ => b.len - (intOf iv).toNat)
      case atStart => exact ⟨0, 1, Nat.zero_le _, rfl, rfl, Nat.le_refl _, by decide, hide ⟨BX, G1, hide (by rw [Fs.from_zero])⟩⟩
      case round =>
        clear BX
        obtain ⟨i, n, hi, rfl, rfl, hin, hnb, hIN⟩ := hrel
        obtain ⟨hT, hC, HE⟩ := hIN.out
        clear hIN
        have xP : wr.cell? ⟨P, 0, none⟩ = some (.slice ba b.len bc) := blk_cell hT.out 0
        by_cases hlt : i < b.len
        · have i2 : (i : Int) < (b.len : Int) := by omega
          by_cases hle : n ≤ 150
          · have i3 : (n : Int) ≤ 150 := by omega
            have hit : i < b.toL.length := by omega
            obtain ⟨la, lc, hlv, hl⟩ := HVB.out
            rcases hl with h0 | ⟨g, off, rfl, hg, hl⟩
            · subst h0; exact absurd hlt (Nat.not_lt_zero _)
            injection hlv with e1 e2 e3
            subst e1
            subst e3
            obtain ⟨⟨vi, c0, ti⟩, c1⟩ := lies_get hl i hit
            obtain ⟨ka, kc, rfl, _⟩ := id ti
            have d0 := hC.out.cell (fun h => h) c0
            have d1 := hC.out.cell (fun h => h) c1
            have ti5 := hide (ti.chg hC.out (fun _ _ h => h))
            have BW := hide (fun x (hx : X x) => Nat.lt_of_lt_of_le (HB.out x hx) hC.out.size)
            have KI := hide (Few_any 150 (d + 1) (by decide) (by decide) hd (b.toL[i]).1 (.slice ka (b.toL[i]).1.len kc) (b.toL[i]).2 X wr BW.out ti5.out)
            have FI := hide (fewT_iff 150 d (b.toL[i]).1)
            have i1 : (0 : Int) ≤ (i : Int) := by omega
            have SZ := hide (Fs.from_size b i hit)
            clear hl c0 c1 ti
            obtain ⟨kk, hkk⟩ : ∃ kk, kk = (b.toL[i]).1 := ⟨_, rfl⟩
            rw [← hkk] at d0 ti5 KI FI SZ
            generalize (b.toL[i]).2 = kb at *
            clear hkk
            rw [z2] at KI
            go_wp2_with fail
            refine KI.out.mono ?_
            rintro e w6 ⟨rfl, g6⟩
            have GT := hide (g6.blk (fun h => h) hT.out)
            have GC := hide (hC.out.trans g6)
            have xP6 := g6.cell (fun h => h) xP
            have d06 := g6.cell (fun h => h) d0
            have d16 := g6.cell (fun h => h) d1
            have TI6 := hide (ti5.out.chg g6 (fun _ _ h => h))
            have BW6 := hide (fun x (hx : X x) => Nat.lt_of_lt_of_le (BW.out x hx) g6.size)
            clear g6 hT hC ti5 KI BW xP d0 d1
            by_cases hfe : fewT 150 (d + 1) kk ≤ 150
            · have hsz : 1 + kk.size ≤ 150 := (FI.out.1 hfe).1
              have KS := hide (size_all 150 (by decide) kk (by omega) (.slice ka kk.len kc) kb X w6 BW6.out TI6.out)
              have hdt : decide (fewT 150 (d + 1) kk ≤ 150) = true := by simpa using hfe
              obtain ⟨q, hq⟩ : ∃ q, 1 + kk.size = q := ⟨_, rfl⟩
              rw [hq] at KS hsz
              have NX : Hid (n + q + (b.from (i + 1)).size = 1 + b.size) := hide (by have := HE.out; have := SZ.out; omega)
              rw [hdt]
              have q1 : 1 ≤ q := by omega
              clear hfe hdt hq FI SZ
              go_wp2_with fail
              refine KS.out.mono ?_
              rintro e w7 ⟨rfl, g7⟩
              have FF : Hid (FewB w w7 P #[.slice (some ⟨g, off, none⟩) b.len bc, .int .i64 k, .int .i64 j, .slice a f.len cap] b (i + 1) (n + q)) := hide ⟨hide (g7.blk (fun h => h) GT.out), hide (GC.out.trans g7), NX⟩
              clear g7 GT GC KS TI6 BW6
              go_wp2_with fail
              go_roundw
              case rel => exact ⟨i + 1, n + q, by omega, by go_num, by go_num, by omega, by omega, FF⟩
              case measure => simp [intOf]; omega
            · have hdt : decide (fewT 150 (d + 1) kk ≤ 150) = false := by simpa using hfe
              rw [hdt]
              clear hfe hdt FI SZ
              go_wp2_with fail
              go_ret
              exact ⟨⟨151, rfl, by omega, by omega, by omega⟩, GC.out⟩
          · have i3 : ¬ (n : Int) ≤ 150 := by omega
            go_wp2_with fail
            go_meet
            exact ⟨n, rfl, by omega, hnb, hide (fun h => absurd h hle), hT, hC⟩
        · have i2 : ¬ (i : Int) < (b.len : Int) := by omega
          have hif : i = b.len := by omega
          have hr : Hid (n = 1 + b.size) := hide (by
            have h := HE.out
            rw [hif, Fs.from_end] at h
            exact h)
          go_wp2_with fail
          go_meet
          exact ⟨n, rfl, by omega, hnb, hide (fun h => hr.out), hT, hC⟩
    case rest =>
      obtain ⟨n0, rfl, hn1, hn2, HN, BX, G1⟩ := hcut
      generalize wc = w2 at *
      go_wp2_with fail
      go_loopw [7, 9] (fun nv iv wr => ∃ (i n : Nat), i ≤ f.len ∧ nv = .int .i64 n ∧ iv = .int .i64 i ∧ i + 1 ≤ n ∧ n ≤ 300 + 150 * (d + 1) ∧ Hid (FewA w wr P #[.slice ba b.len bc, .int .i64 k, .int .i64 j, .slice a f.len cap] b f i n)) (fun _ iv _ => f.len - (intOf iv).toNat)
      case atStart => exact ⟨0, n0, Nat.zero_le _, rfl, rfl, hn1, by omega, hide ⟨BX, G1, hide (fun h => by rw [Tms.drop_zero, HN.out h])⟩⟩
      case round =>
        clear BX HN
        obtain ⟨i, n, hi, rfl, rfl, hin, hnb, hIN⟩ := hrel
        obtain ⟨hT, hC, HE⟩ := hIN.out
        clear hIN
        have xP : wr.cell? ⟨P, 3, none⟩ = some (.slice a f.len cap) := blk_cell hT.out 3
        by_cases hlt : i < f.len
        · have i2 : (i : Int) < (f.len : Int) := by omega
          by_cases hle : n ≤ 150
          · have i3 : (n : Int) ≤ 150 := by omega
            have hit : i < f.toL.length := by omega
            obtain ⟨la, lc, hlv, hl⟩ := HV.out
            rcases hl with h0 | ⟨g, off, rfl, hg, hl⟩
            · subst h0; exact absurd hlt (Nat.not_lt_zero _)
            injection hlv with e1 e2 e3
            subst e1
            subst e3
            obtain ⟨⟨vkb, c0, tb⟩, c1, c2, vi, c3, ti⟩ := tlies_get hl i hit
            obtain ⟨kba, kbc, rfl, _⟩ := id tb
            obtain ⟨ka, kc, rfl, _⟩ := id ti
            have hks := Tms.kid_size f i hit
            have d0 := hC.out.cell (fun h => h) c0
            have d1 := hC.out.cell (fun h => h) c1
            have d2 := hC.out.cell (fun h => h) c2
            have d3 := hC.out.cell (fun h => h) c3
            have KI := hide (IH.out (f.toL[i]).ag (by have := HF.out; omega) (f.toL[i]).bs (f.toL[i]).kd (f.toL[i]).ix _ _ X wr d (by omega) (fun x (hx : X x) => Nat.lt_of_lt_of_le (HB.out x hx) hC.out.size) (tb.chg hC.out (fun _ _ h => h)) (ti.chg hC.out (fun _ _ h => h)))
            have i1 : (0 : Int) ≤ (i : Int) := by omega
            have SZ := hide (Tms.drop_size f i hit)
            have z3 : ((d : Int) + 1 - 1) = (d : Int) := by omega
            clear hl c0 c1 c2 c3 tb ti hks
            dsimp only [Tm.bs, Tm.kd, Tm.ix, Tm.ag] at d0 d1 d2 d3 KI SZ
            generalize (f.toL[i]).1 = k0 at *
            generalize (f.toL[i]).2.1 = k1 at *
            generalize (f.toL[i]).2.2.1 = k2 at *
            generalize (f.toL[i]).2.2.2 = k3 at *
            go_wp2_with fail
            refine KI.out.mono ?_
            rintro e w6 ⟨⟨q, rfl, hq1, hq2, hq3⟩, g6⟩
            have FF : Hid (FewA w w6 P #[.slice ba b.len bc, .int .i64 k, .int .i64 j, .slice (some ⟨g, off, none⟩) f.len cap] b f (i + 1) (n + q)) := hide ⟨hide (g6.blk (fun h => h) hT.out), hide (hC.out.trans g6), hide (fun h => by have h1 := HE.out hle; have h2 := hq3 (by omega); have := SZ.out; omega)⟩
            clear g6 hT hC KI
            go_wp2_with fail
            go_roundw
            case rel => exact ⟨i + 1, n + q, by omega, by go_num, by go_num, by omega, by omega, FF⟩
            case measure => simp [intOf]; omega
          · have i3 : ¬ (n : Int) ≤ 150 := by omega
            go_wp2_with fail
            go_ret
            exact ⟨⟨n, rfl, by omega, hnb, fun h => absurd h hle⟩, hC.out⟩
        · have i2 : ¬ (i : Int) < (f.len : Int) := by omega
          have hif : i = f.len := by omega
          go_wp2_with fail
          go_ret
          exact ⟨⟨n, rfl, by omega, hnb, fun h => by have h1 := HE.out h; rw [hif, Tms.drop_all] at h1; exact h1⟩, hC.out⟩
theorem few06_all (N : Nat) : ∀ (f : Tms), f.size ≤ N → FewC f := by
  induction N with
  | zero => exact fun f hf => few06_step 0 (fun g hg => absurd hg (Nat.not_lt_zero _)) f hf
  | succ n ih => exact fun f hf => few06_step (n + 1) (fun g hg => ih g (by omega)) f hf

/-- Few: of few terms and types, or not. -/
def Tm.few (t : Tm) (r : Bool) : Prop := r = true → 1 + t.bs.size + t.ag.size ≤ 150
set_option maxRecDepth 100000 in
theorem Few06_any (t : Tm) (v : Value) (X : Nat → Prop) (w : World) (hX : ∀ x, X x → x < w.heap.size) (hv : TV w X v t) :
    Calls Tryd.prog 41 #[v, .int .i64 150, .int .i64 70] w fun e w' => (∃ r, e = .returned (.bool r) ∧ t.few r) ∧ Chg (fun _ => False) w w' := by
  obtain ⟨b, k, i, f⟩ := t
  obtain ⟨ba, bc, a, cap, rfl, h1, h2⟩ := hv
  have G1 := hide (al w (.cells #[.slice ba b.len bc, .int .i64 k, .int .i64 i, .slice a f.len cap] 27))
  have BX := blk_new w (.cells #[.slice ba b.len bc, .int .i64 k, .int .i64 i, .slice a f.len cap] 27)
  have y0 := blk_cell BX 0
  have y1 := blk_cell BX 1
  have y2 := blk_cell BX 2
  have y3 := blk_cell BX 3
  simp only [List.getElem?_toArray, List.getElem?_cons_zero, List.getElem?_cons_succ] at y0 y1 y2 y3
  have fc := hide (few06_all f.size f (Nat.le_refl _) b k i _ _ X _ 70 (by decide) (fun x hx => Nat.lt_of_lt_of_le (hX x hx) G1.out.size) (h1.chg G1.out (fun _ _ h => h)) (h2.chg G1.out (fun _ _ h => h)))
  rw [show ((70 : Nat) : Int) = 70 from rfl] at fc
  clear h1 h2 BX
  dsimp only [Tm.bs, Tm.kd, Tm.ix, Tm.ag]
  go_enter Tryd.func41, Tryd.ntmps41
  go_wp2_with fail
  generalize w.alloc (.cells #[.slice ba b.len bc, .int .i64 k, .int .i64 i, .slice a f.len cap] 27) = w1 at *
  refine fc.out.mono ?_
  rintro e w6 ⟨⟨n, rfl, hn1, hn2, hn3⟩, g6⟩
  have GG := hide (G1.out.trans g6)
  have HN := hide hn3
  clear g6 hn3
  go_wp2_with fail
  go_ret
  refine ⟨⟨_, rfl, fun h => ?_⟩, GG.out⟩
  have hle : n ≤ 150 := by
    have h2 := of_decide_eq_true h
    omega
  have := HN.out hle
  show 1 + b.size + f.size ≤ 150
  omega

def Tms.fews (f : Tms) (r : Bool) : Prop := r = true → ∀ t ∈ f.toL, 1 + t.bs.size + t.ag.size ≤ 150
set_option maxRecDepth 100000 in
set_option maxHeartbeats 4000000 in
/-- L06.Few of a row of terms. -/
theorem L06Few_any (f : Tms) (hf : f.len ≤ 1000000) (v : Value) (X : Nat → Prop) (w : World) (hX : ∀ x, X x → x < w.heap.size) (hv : Tr w X v f) :
    Calls Tryd.prog 9 #[v] w fun e w' => (∃ r, e = .returned (.bool r) ∧ f.fews r) ∧ Chg (fun _ => False) w w' := by
  obtain ⟨a, cap, rfl, _⟩ := id hv
  have HV := hide hv
  have HX := hide hX
  have htl := Tms.toL_len f
  clear hv hX
  go_enter Tryd.func9, Tryd.ntmps9
  go_wp2_with fail
  go_loopw [3] (fun iv wr => ∃ (i : Nat), i ≤ f.len ∧ iv = .int .i64 i ∧ Hid (∀ j (h : j < f.toL.length), j < i → 1 + (f.toL[j]).bs.size + (f.toL[j]).ag.size ≤ 150) ∧ Hid (Chg (fun _ => False) w wr)) (fun iv _ => f.len - (intOf iv).toNat)
  case atStart => exact ⟨0, Nat.zero_le _, rfl, hide (fun j _ h => absurd h (Nat.not_lt_zero _)), hide (Chg.refl _ _)⟩
  case round =>
    obtain ⟨i, hi, rfl, HA, hC⟩ := hrel
    by_cases hlt : i < f.len
    · have i2 : (i : Int) < (f.len : Int) := by omega
      have hit : i < f.toL.length := by omega
      obtain ⟨la, lc, hlv, hl⟩ := HV.out
      rcases hl with h0 | ⟨g, off, rfl, hg, hl⟩
      · subst h0; exact absurd hlt (Nat.not_lt_zero _)
      injection hlv with e1 e2 e3
      subst e1
      subst e3
      obtain ⟨⟨vkb, c0, tb⟩, c1, c2, vi, c3, ti⟩ := tlies_get hl i hit
      obtain ⟨kba, kbc, rfl, _⟩ := id tb
      obtain ⟨ka, kc, rfl, _⟩ := id ti
      have d0 := hC.out.cell (fun h => h) c0
      have d1 := hC.out.cell (fun h => h) c1
      have d2 := hC.out.cell (fun h => h) c2
      have d3 := hC.out.cell (fun h => h) c3
      have KI := hide (Few06_any (f.toL[i]) (.agg #[.slice kba (f.toL[i]).bs.len kbc, .int .i64 (f.toL[i]).kd, .int .i64 (f.toL[i]).ix, .slice ka (f.toL[i]).ag.len kc]) X wr (fun x (hx : X x) => Nat.lt_of_lt_of_le (HX.out x hx) hC.out.size) ⟨kba, kbc, ka, kc, rfl, tb.chg hC.out (fun _ _ h => h), ti.chg hC.out (fun _ _ h => h)⟩)
      have HN := hide (fun (r : Bool) (h : (f.toL[i]).few r) (hr : r = true) j (hj : j < f.toL.length) (hji : j < i + 1) => (by
        by_cases e : j < i
        · exact HA.out j hj e
        · have : j = i := by omega
          subst this
          exact h hr : 1 + (f.toL[j]).bs.size + (f.toL[j]).ag.size ≤ 150))
      have i1 : (0 : Int) ≤ (i : Int) := by omega
      clear hl c0 c1 c2 c3 tb ti
      generalize f.toL[i] = t at *
      obtain ⟨k0, k1, k2, k3⟩ := t
      dsimp only [Tm.bs, Tm.kd, Tm.ix, Tm.ag] at d0 d1 d2 d3 KI
      go_wp2_with fail
      refine KI.out.mono ?_
      rintro e w6 ⟨⟨r, rfl, hr⟩, g6⟩
      have HR := hide hr
      have GC := hide (hC.out.trans g6)
      clear g6 hC KI hr
      cases r
      · go_wp2_with fail
        go_ret
        exact ⟨⟨false, rfl, fun h => by cases h⟩, GC.out⟩
      · have HN2 := hide (HN.out true HR.out rfl)
        go_wp2_with fail
        go_roundw
        case rel => exact ⟨i + 1, by omega, by go_num, HN2, GC⟩
        case measure => simp [intOf]; omega
    · have i2 : ¬ (i : Int) < (f.len : Int) := by omega
      have hif : i = f.len := by omega
      go_wp2_with fail
      go_ret
      exact ⟨Or.inr ⟨rfl, fun _ t ht => by
        obtain ⟨j, hj, rfl⟩ := List.getElem_of_mem ht
        exact HA.out j hj (by omega)⟩, hC.out⟩
end Go.Proofs.YtnpcapdlgcaniaaDoor
