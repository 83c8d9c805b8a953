/- The walk of LexReads. -/
import Derived.Test.YtiommimbnegplaaReadLaw
namespace Go.Proofs.Ytiommimbnegplaa
open Go.RowKit
set_option linter.unusedVariables false
set_option linter.unusedSimpArgs false

theorem txs_at {w0 W : World} {R Q : Nat} {v u : Value} {ts : List Tok} {s : ByteArray} {k : Nat} {a : Option Addr} {xs : List ByteArray} (h : Txs w0 w0.heap.size a xs) (l : LS w0 W R Q v u ts s k) : Txs W R a xs :=
  (h.chg l.chg (fun b hb h => by omega)).up l.base

theorem tok_size {ts : List Tok} {s : ByteArray} (hx : ∀ t ∈ ts, t.2.1.size ≤ 1000000) (k : Nat) : (tokAt ts s k 0).2.1.size ≤ 9223372036854775807 := by
  unfold tokAt
  split
  · exact Nat.zero_le _
  · by_cases h : k + (0 : Int).toNat < ts.length
    · simp only [List.getD_eq_getElem?_getD, List.getElem?_eq_getElem h, Option.getD_some]
      have := hx _ (List.getElem_mem h)
      omega
    · simp only [List.getD_eq_getElem?_getD, List.getElem?_eq_none (Nat.le_of_not_lt h), Option.getD_none]
      exact Nat.zero_le _

theorem LS.start {w0 W3 W4 : World} {R : Nat} {v u : Value} {ts : List Tok} {s : ByteArray} (hb : Below w0.heap.size w0 W3) (hu : IsToks W3 u ts) (hR : W3.heap.size ≤ R) (rd : Rd W4 R 85 v s 0) (tv : Tks W4 R v ts) (g : Chg (fun _ => False) W3 W4) :
    LS w0 (W4.alloc (.cells #[u, .string s, .int .i64 0] 54)) R W4.heap.size v u ts s 0 where
  rd := rd.chg (al _ _) (fun h => h)
  rq := blk_new W4 _
  tv := tv.chg (al _ _) (fun _ _ h => h)
  tu := by
    have h1 := (hu.tks.chg g (fun _ _ h => h)).chg (al W4 (.cells #[u, .string s, .int .i64 0] 54)) (fun _ _ h => h)
    obtain ⟨a, cap, rfl, h⟩ := h1
    refine ⟨a, cap, rfl, ?_⟩
    rcases h with h | ⟨b, rfl, hb, hr⟩
    · exact Or.inl h
    · exact Or.inr ⟨b, rfl, by omega, hr⟩
  lt := blk_lt rd
  base := by have := hb.size; omega
  le := Nat.zero_le _
  chg := ((Chg.of_below hb).trans (g.none)).trans (al _ _).none

set_option maxRecDepth 100000 in
set_option maxHeartbeats 16000000 in
theorem reads_some (s : ByteArray) (hsl : s.size ≤ 9223372036854775807) (g off cap len : Nat) (fs : List RAct) (hl : len ≤ cap) (h3 : cap ≤ 9223372036854775807) (hfl : fs.length = min len 60) (w : World) (hg : g < w.heap.size) (hA : RRow w g off fs) :
    Calls Try.prog 6 #[.string s, .slice (some ⟨g, off, none⟩) len cap] w fun e w' => e = .returned (.bool true) ∧ Below w.heap.size w w' := by
  have hx : (s.extract 0 (min (s.size : Int) 300).toNat).size ≤ 20000 := by simp; omega
  have HA := hide hA
  have HL := hide hfl
  have HZ := hide hg
  clear hA hfl hg
  go_enter Try.func6, Try.ntmps6
  go_wp2_with fail
  generalize s.extract 0 (min (s.size : Int) 300).toNat = S at *
  obtain ⟨F, hF⟩ : ∃ F, F = flt S (lexG S (S.size + 1) 0 false) := ⟨_, rfl⟩
  have sp := hide (fun w => split_told S hx w F hF)
  have rp := hide (fun w => refSplit_told S hx w F hF)
  have tl := toks_len S
  have tb := hide (toks_bd S)
  generalize toksOf (lexG S (S.size + 1) 0 false) = ts at *
  obtain ⟨f0, f1, f2, f3⟩ := F
  clear hF
  refine (sp.out _).mono ?_
  rintro e w1 ⟨⟨v, rfl, hv⟩, hB1⟩
  go_wp2_with fail
  refine (rp.out _).mono ?_
  rintro e w2 ⟨⟨u, rfl, hu⟩, hB2⟩
  have k0 := blk_new w1 (.cells #[.int .i64 f0, .int .i64 f1, .int .i64 f2, .string f3] 27)
  have hsz : (w1.alloc (.cells #[.int .i64 f0, .int .i64 f1, .int .i64 f2, .string f3] 27)).heap.size = w1.heap.size + 1 := by simp
  have hv2 := (hv.below ((Below.refl _ w1).alloc (Nat.le_refl _) _)).below hB2
  have k2 := (hB2.block w1.heap.size (by rw [hsz]; omega)).trans k0
  have hBw : Below w.heap.size w w2 := (hB1.alloc hB1.size _).trans (hB2.mono (by rw [hsz]; have := hB1.size; omega))
  clear hB1 hB2 hv k0 hsz
  go_wp2_with fail
  have kf := hide (fun w => fault_any f0 f1 f2 f3 w)
  have kn := hide known_any
  have h2s : w1.heap.size < w2.heap.size := blk_lt k2
  obtain ⟨W0, hW0⟩ : ∃ W0, W0 = w2.alloc (Obj.cells #[Value.int IntKind.i64 f0, Value.int IntKind.i64 f1, Value.int IntKind.i64 f2, Value.string f3] 33) := ⟨_, rfl⟩
  have q1 : W0.heap[w1.heap.size]? = some (Obj.cells #[Value.int IntKind.i64 f0, Value.int IntKind.i64 f1, Value.int IntKind.i64 f2, Value.string f3] 27) := by
    rw [hW0]; exact (((Below.refl _ w2).alloc (Nat.le_refl _) _).block w1.heap.size h2s).trans k2
  have q2 : W0.heap[w2.heap.size]? = some (Obj.cells #[Value.int IntKind.i64 f0, Value.int IntKind.i64 f1, Value.int IntKind.i64 f2, Value.string f3] 33) := by
    rw [hW0]; exact blk_new w2 _
  have qv : IsToks W0 v ts := by rw [hW0]; exact hv2.below ((Below.refl _ w2).alloc (Nat.le_refl _) _)
  have qu : IsToks W0 u ts := by rw [hW0]; exact hu.below ((Below.refl _ w2).alloc (Nat.le_refl _) _)
  have qB : Below w.heap.size w W0 := by rw [hW0]; exact hBw.alloc hBw.size _
  rw [← hW0]
  generalize w1.heap.size = A at *
  generalize w2.heap.size = B at *
  clear hW0 k2 hv2 hu hBw sp rp
  have A0 := blk_cell q1 0
  have A1 := blk_cell q1 1
  have A2 := blk_cell q1 2
  have A3 := blk_cell q1 3
  have B0 := blk_cell q2 0
  have B1 := blk_cell q2 1
  have B2 := blk_cell q2 2
  have B3 := blk_cell q2 3
  have lA := blk_lt q1
  have lB := blk_lt q2
  have tl' : ts.length ≤ 100000 := by omega
  have HV := hide qv
  have HU := hide qu
  have HB := hide qB
  have Hc : Hid (Below W0.heap.size W0 W0) := hide (Below.refl _ W0)
  clear qv qu qB q1 q2
  go_wp2_with fail
  go_region_held3 (fun w' => w'.cell? ⟨A, 0, none⟩ = some (.int .i64 f0) ∧ w'.cell? ⟨A, 1, none⟩ = some (.int .i64 f1) ∧ w'.cell? ⟨A, 2, none⟩ = some (.int .i64 f2) ∧ w'.cell? ⟨A, 3, none⟩ = some (.string f3) ∧
      w'.cell? ⟨B, 0, none⟩ = some (.int .i64 f0) ∧ w'.cell? ⟨B, 1, none⟩ = some (.int .i64 f1) ∧ w'.cell? ⟨B, 2, none⟩ = some (.int .i64 f2) ∧ w'.cell? ⟨B, 3, none⟩ = some (.string f3))
    (go_keep)
    (first
      | (go_at_call 10; refine (kn.out _).mono ?_; rintro e w3 ⟨rfl, h3⟩; have Hd : Below W0.heap.size W0 w3 := (by first | exact step_on Hc.out h3 | exact step_in Hc.out h3); have DA0 := (Hd.cell (p := ⟨A, 0, none⟩) lA).trans A0; have DA1 := (Hd.cell (p := ⟨A, 1, none⟩) lA).trans A1; have DA2 := (Hd.cell (p := ⟨A, 2, none⟩) lA).trans A2; have DA3 := (Hd.cell (p := ⟨A, 3, none⟩) lA).trans A3; have DB0 := (Hd.cell (p := ⟨B, 0, none⟩) lB).trans B0; have DB1 := (Hd.cell (p := ⟨B, 1, none⟩) lB).trans B1; have DB2 := (Hd.cell (p := ⟨B, 2, none⟩) lB).trans B2; have DB3 := (Hd.cell (p := ⟨B, 3, none⟩) lB).trans B3; have hws := Hd.size; clear Hc; have Hc := hide Hd; clear Hd h3)
      | (go_at_call 11; refine (same_any v u ts tl' _ (HV.out.below (by first | exact Hc.out | exact Hc.out.drew)) (HU.out.below (by first | exact Hc.out | exact Hc.out.drew))).mono ?_; rintro e w3 ⟨rfl, h3⟩; have Hd : Below W0.heap.size W0 w3 := (by first | exact step_on Hc.out h3 | exact step_in Hc.out h3); have DA0 := (Hd.cell (p := ⟨A, 0, none⟩) lA).trans A0; have DA1 := (Hd.cell (p := ⟨A, 1, none⟩) lA).trans A1; have DA2 := (Hd.cell (p := ⟨A, 2, none⟩) lA).trans A2; have DA3 := (Hd.cell (p := ⟨A, 3, none⟩) lA).trans A3; have DB0 := (Hd.cell (p := ⟨B, 0, none⟩) lB).trans B0; have DB1 := (Hd.cell (p := ⟨B, 1, none⟩) lB).trans B1; have DB2 := (Hd.cell (p := ⟨B, 2, none⟩) lB).trans B2; have DB3 := (Hd.cell (p := ⟨B, 3, none⟩) lB).trans B3; have hws := Hd.size; clear Hc; have Hc := hide Hd; clear Hd h3)
      | (go_at_call 12; refine (kf.out _).mono ?_; rintro e w3 ⟨rfl, h3⟩; have Hd : Below W0.heap.size W0 w3 := (by first | exact step_on Hc.out h3 | exact step_in Hc.out h3); have DA0 := (Hd.cell (p := ⟨A, 0, none⟩) lA).trans A0; have DA1 := (Hd.cell (p := ⟨A, 1, none⟩) lA).trans A1; have DA2 := (Hd.cell (p := ⟨A, 2, none⟩) lA).trans A2; have DA3 := (Hd.cell (p := ⟨A, 3, none⟩) lA).trans A3; have DB0 := (Hd.cell (p := ⟨B, 0, none⟩) lB).trans B0; have DB1 := (Hd.cell (p := ⟨B, 1, none⟩) lB).trans B1; have DB2 := (Hd.cell (p := ⟨B, 2, none⟩) lB).trans B2; have DB3 := (Hd.cell (p := ⟨B, 3, none⟩) lB).trans B3; have hws := Hd.size; clear Hc; have Hc := hide Hd; clear Hd h3))
  have q7 := HU.out.below Hc.out
  have q8 := HV.out.below Hc.out
  have q9 := hide (HB.out.trans (Hc.out.mono HB.out.size))
  have nw := hide (new_any v ts S (by omega) _ q8)
  have Q7 := hide q7
  clear q7 q8 HU HV HB Hc kf kn
  go_wp2_with fail
  refine nw.out.mono ?_
  rintro e w4 ⟨R, vv, rfl, hR, hrd, htv, g4⟩
  have ls := hide (LS.start q9.out Q7.out hR hrd htv g4)
  clear hrd htv g4 hR
  obtain ⟨ua, ucap, rfl, hxx⟩ := Q7.out
  clear hxx
  go_wp2_with fail
  generalize (w4.alloc (Obj.cells #[Value.slice ua ts.length ucap, Value.string S, Value.int IntKind.i64 0] 54)) = W at *
  generalize w4.heap.size = Q at *
  have hlB : ts.length ≤ 1000000 := by omega
  have hsB : S.size ≤ 1000000 := by omega
  have tA := hide (fun t ht => (tb.out t ht).1)
  have tX : Hid (∀ t ∈ ts, t.2.1.size ≤ 1000000) := hide (fun t ht => by have := (tb.out t ht).2; omega)
  clear A0 A1 A2 A3 B0 B1 B2 B3 DA0 DA1 DA2 DA3 DB0 DB1 DB2 DB3 lA lB hws nw Q7 h2s q9
  go_loopw [12] (fun iv wr => ∃ i k : Nat, i ≤ len ∧ i ≤ 60 ∧ iv = .int .i64 i ∧ Hid (LS w wr R Q vv (.slice ua ts.length ucap) ts S k)) (fun iv _ => 60 - (intOf iv).toNat)
  case atStart => exact ⟨0, 0, Nat.zero_le _, by omega, rfl, ls⟩
  case round =>
    clear ls
    obtain ⟨i, k, hi, hi2, rfl, ls⟩ := hrel
    by_cases hlt : i < len
    · by_cases hlt2 : i < 60
      · have hac := HA.out i (by have := HL.out; omega)
        generalize fs[i]'(by have := HL.out; omega) = f at hac
        obtain ⟨c0, c1, c2, ok⟩ := hac
        obtain ⟨fk, fn, fa, fl, fc, xs⟩ := f
        obtain ⟨o1, o2, o3, o4, o5⟩ := ok
        dsimp only at c0 c1 c2 o1 o2 o3 o4 o5
        have O5 := hide o5
        have hSg : ¬ (w.heap.size ≤ g) := by have := HZ.out; omega
        have e0 := ls.out.chg.cell hSg c0
        have e1 := ls.out.chg.cell hSg c1
        have e2 := ls.out.chg.cell hSg c2
        have lsD := hide (ls.out.keep (al wr (.cells #[.int .i64 fk, .int .i64 fn, .slice fa fl fc] 57)))
        have aD := blk_new wr (.cells #[.int .i64 fk, .int .i64 fn, .slice fa fl fc] 57)
        have hle := ls.out.le
        clear c0 c1 c2 o5 ls
        cases fa with
        | none =>
          obtain ⟨rfl, rfl⟩ := o3 rfl
          by_cases k0 : ((IntKind.u64.wrap fk).tmod 4 == 0) = true
          · have pn := hide (fun w' h1 h2 => next_some R R vv ts S k hle hlB hsB w' h1 h2)
            have pr := hide (fun w' h1 h2 => refNext Q R (.slice ua ts.length ucap) ts S k hle hlB hsB w' h1 h2)
            obtain ⟨t, ht⟩ : ∃ t, t = tokAt ts S k 0 := ⟨_, rfl⟩
            rw [← ht] at pn pr
            clear ht
            obtain ⟨t0, t1, t2⟩ := t
            have etv : tokV (t0, t1, t2) = .agg #[.int .i64 t0, .string t1, .int .i64 (t2 : Int)] := rfl
            rw [etv] at pn pr
            clear etv
            have hof := hide (fun w' => of_token t0 t1 t2 w')
            go_wp2_with fail
            have hxs : xs.length = (min (0 : Int) 5).toNat := by omega
            have hL5 : (min (0 : Int) 5).toNat ≤ 1000 := by omega
            generalize (min (0 : Int) 5).toNat = L at *
            generalize (wr.alloc (Obj.cells #[Value.int IntKind.i64 fk, Value.int IntKind.i64 fn, Value.slice none 0 0] 57)) = WD at *
            generalize wr.heap.size = D at *
            have d0 : WD.cell? ⟨D, 0, none⟩ = some (.int .i64 fk) := blk_cell aD 0
            have d1 : WD.cell? ⟨D, 1, none⟩ = some (.int .i64 fn) := blk_cell aD 1
            have dD := hide d1
            refine (pn.out _ lsD.out.rd lsD.out.tv).mono ?_
            rintro e w5 ⟨rfl, r5, g5⟩
            have R5 := hide r5
            have G5 := hide g5
            clear r5 g5 d0 d1 dD
            go_wp2_with fail
            refine (hof.out _).mono ?_
            rintro e w6 ⟨rfl, g6⟩
            have G6 := hide (Chg.ofB g6)
            clear g6
            go_wp2_with fail
            refine (pr.out _ ((lsD.out.rq.chg G5.out (by have := lsD.out.lt; omega)).chg G6.out (fun h => h)) ((lsD.out.tu.chg G5.out (fun b hb e => by omega)).chg G6.out (fun _ _ h => h))).mono ?_
            rintro e w7 ⟨rfl, r7, g7⟩
            have ls7 := hide (lsD.out.step R5.out G5.out r7 (G6.out.none.trans g7) (on_le hle))
            clear r7 g7 R5 G5 G6 pn pr hof lsD aD
            go_wp2_with fail
            have rpl := hide (fun w' h1 h2 => refPlace Q R (.slice ua ts.length ucap) ts S (on ts k) ls7.out.le hlB hsB tA.out w' h1 h2)
            have ppl := hide (place_some R R vv ts S (on ts k) ls7.out.le hlB hsB tA.out w7 ls7.out.rd ls7.out.tv)
            generalize markAt ts S (on ts k) = mm at *
            obtain ⟨m0, m1⟩ := mm
            dsimp only at rpl ppl
            refine ppl.out.mono ?_
            rintro e w8 ⟨rfl, g8⟩
            have ls9 := hide ((ls7.out.keep g8).keep (al w8 (.cells #[.int .i64 m0, .int .i64 m1] 25)))
            have a9 := blk_new w8 (.cells #[.int .i64 m0, .int .i64 m1] 25)
            clear g8
            go_wp2_with fail
            generalize (w8.alloc (Obj.cells #[Value.int IntKind.i64 m0, Value.int IntKind.i64 m1] 25)) = W9 at *
            generalize w8.heap.size = D9 at *
            have c0 : W9.cell? ⟨D9, 0, none⟩ = some (.int .i64 m0) := blk_cell a9 0
            have c1 : W9.cell? ⟨D9, 1, none⟩ = some (.int .i64 m1) := blk_cell a9 1
            have ls9d := hide (ls9.out.keep (Chg.refl _ _).drew)
            obtain ⟨bl, hbl⟩ : ∃ bl, bl = decide (L = 0) := ⟨_, rfl⟩
            have tn := hide (fun w' h => take_nil none 0 L w' R xs hxs h)
            rw [← hbl] at tn
            have eL : ((L : Int) == 0) = bl := by rw [hbl]; by_cases h : L = 0 <;> simp [h]
            clear a9 ls9 hbl
            go_region_held3 (fun w' => w'.cell? ⟨D9, 0, none⟩ = some (.int .i64 m0) ∧ w'.cell? ⟨D9, 1, none⟩ = some (.int .i64 m1))
              (go_keep)
              (first
                | (go_at_call 26; refine (rpl.out W9.drew ls9d.out.rq ls9d.out.tu).mono ?_; rintro e w10 ⟨rfl, g10⟩; have x0 : w10.cell? ⟨D9, 0, none⟩ = some (.int .i64 m0) := g10.cell (fun h => h) c0; have x1 : w10.cell? ⟨D9, 1, none⟩ = some (.int .i64 m1) := g10.cell (fun h => h) c1; have ls10 := hide (ls9d.out.keep g10))
                | (go_at_call 23; refine (tn.out w10 (txs_at O5.out ls10.out)).mono ?_; rintro e w11 ⟨rfl, g11⟩; have y0 : w11.cell? ⟨D9, 0, none⟩ = some (.int .i64 m0) := g11.cell (fun h => h) x0; have y1 : w11.cell? ⟨D9, 1, none⟩ = some (.int .i64 m1) := g11.cell (fun h => h) x1; have ls11 := hide (ls10.out.keep g11)))
            clear c0 c1 x0 x1 y0 y1 g10 g11 rpl ppl tn ls9d ls10
            go_wp2_with fail
            go_roundw
            case rel => exact ⟨i + 1, _, by omega, by omega, by go_num, ls11⟩
            case measure => simp [intOf]; omega
          · have k0 := Bool.eq_false_iff.2 k0
            by_cases k1 : ((IntKind.u64.wrap fk).tmod 4 == 1) = true
            · have pn := hide (fun w' h1 h2 => peek_some R R vv ts S k fn hle hlB hsB w' h1 h2)
              have pr := hide (fun w' h1 h2 => refPeek Q R (.slice ua ts.length ucap) ts S k fn hle hlB hsB w' h1 h2)
              obtain ⟨t, ht⟩ : ∃ t, t = tokAt ts S k fn := ⟨_, rfl⟩
              rw [← ht] at pn pr
              clear ht
              obtain ⟨t0, t1, t2⟩ := t
              have etv : tokV (t0, t1, t2) = .agg #[.int .i64 t0, .string t1, .int .i64 (t2 : Int)] := rfl
              rw [etv] at pn pr
              clear etv
              have hof := hide (fun w' => of_token t0 t1 t2 w')
              go_wp2_with fail
              have hxs : xs.length = (min (0 : Int) 5).toNat := by omega
              have hL5 : (min (0 : Int) 5).toNat ≤ 1000 := by omega
              generalize (min (0 : Int) 5).toNat = L at *
              generalize (wr.alloc (Obj.cells #[Value.int IntKind.i64 fk, Value.int IntKind.i64 fn, Value.slice none 0 0] 57)) = WD at *
              generalize wr.heap.size = D at *
              have d0 : WD.cell? ⟨D, 0, none⟩ = some (.int .i64 fk) := blk_cell aD 0
              have d1 : WD.cell? ⟨D, 1, none⟩ = some (.int .i64 fn) := blk_cell aD 1
              have dD := hide d1
              have lsd := hide (lsD.out.keep (Chg.refl _ _).drew)
              go_region_held3 (fun w' => w'.cell? ⟨D, 1, none⟩ = some (.int .i64 fn))
                (go_keep)
                (first
                  | (go_at_call 21; refine (pn.out WD.drew lsd.out.rd lsd.out.tv).mono ?_; rintro e w5 ⟨rfl, g5⟩; have x0 : w5.cell? ⟨D, 1, none⟩ = some (.int .i64 fn) := g5.cell (fun h => h) d1; have ls5 := hide (lsd.out.keep g5))
                  | (go_at_call 18; refine (hof.out _).mono ?_; rintro e w6 ⟨rfl, g6⟩; have x1 : w6.cell? ⟨D, 1, none⟩ = some (.int .i64 fn) := (Chg.ofB g6).cell (fun h => h) x0; have ls6 := hide (ls5.out.keep (Chg.ofB g6)))
                  | (go_at_call 22; refine (pr.out w6 ls6.out.rq ls6.out.tu).mono ?_; rintro e w7 ⟨rfl, g7⟩; have x2 : w7.cell? ⟨D, 1, none⟩ = some (.int .i64 fn) := g7.cell (fun h => h) x1; have ls7 := hide (ls6.out.keep g7)))
              clear x0 x1 x2 g5 g6 g7 ls5 ls6 lsd lsD aD d0 d1 dD pn pr hof
              go_wp2_with fail
              have rpl := hide (fun w' h1 h2 => refPlace Q R (.slice ua ts.length ucap) ts S k ls7.out.le hlB hsB tA.out w' h1 h2)
              have ppl := hide (place_some R R vv ts S k ls7.out.le hlB hsB tA.out w7 ls7.out.rd ls7.out.tv)
              generalize markAt ts S k = mm at *
              obtain ⟨m0, m1⟩ := mm
              dsimp only at rpl ppl
              refine ppl.out.mono ?_
              rintro e w8 ⟨rfl, g8⟩
              have ls9 := hide ((ls7.out.keep g8).keep (al w8 (.cells #[.int .i64 m0, .int .i64 m1] 25)))
              have a9 := blk_new w8 (.cells #[.int .i64 m0, .int .i64 m1] 25)
              clear g8
              go_wp2_with fail
              generalize (w8.alloc (Obj.cells #[Value.int IntKind.i64 m0, Value.int IntKind.i64 m1] 25)) = W9 at *
              generalize w8.heap.size = D9 at *
              have c0 : W9.cell? ⟨D9, 0, none⟩ = some (.int .i64 m0) := blk_cell a9 0
              have c1 : W9.cell? ⟨D9, 1, none⟩ = some (.int .i64 m1) := blk_cell a9 1
              have ls9d := hide (ls9.out.keep (Chg.refl _ _).drew)
              obtain ⟨bl, hbl⟩ : ∃ bl, bl = decide (L = 0) := ⟨_, rfl⟩
              have tn := hide (fun w' h => take_nil none 0 L w' R xs hxs h)
              rw [← hbl] at tn
              have eL : ((L : Int) == 0) = bl := by rw [hbl]; by_cases h : L = 0 <;> simp [h]
              clear a9 ls9 hbl
              go_region_held3 (fun w' => w'.cell? ⟨D9, 0, none⟩ = some (.int .i64 m0) ∧ w'.cell? ⟨D9, 1, none⟩ = some (.int .i64 m1))
                (go_keep)
                (first
                  | (go_at_call 26; refine (rpl.out W9.drew ls9d.out.rq ls9d.out.tu).mono ?_; rintro e w10 ⟨rfl, g10⟩; have x0 : w10.cell? ⟨D9, 0, none⟩ = some (.int .i64 m0) := g10.cell (fun h => h) c0; have x1 : w10.cell? ⟨D9, 1, none⟩ = some (.int .i64 m1) := g10.cell (fun h => h) c1; have ls10 := hide (ls9d.out.keep g10))
                  | (go_at_call 23; refine (tn.out w10 (txs_at O5.out ls10.out)).mono ?_; rintro e w11 ⟨rfl, g11⟩; have y0 : w11.cell? ⟨D9, 0, none⟩ = some (.int .i64 m0) := g11.cell (fun h => h) x0; have y1 : w11.cell? ⟨D9, 1, none⟩ = some (.int .i64 m1) := g11.cell (fun h => h) x1; have ls11 := hide (ls10.out.keep g11)))
              clear c0 c1 x0 x1 y0 y1 g10 g11 rpl ppl tn ls9d ls10
              go_wp2_with fail
              go_roundw
              case rel => exact ⟨i + 1, _, by omega, by omega, by go_num, ls11⟩
              case measure => simp [intOf]; omega
            · have k1 := Bool.eq_false_iff.2 k1
              by_cases k2 : ((IntKind.u64.wrap fk).tmod 4 == 2) = true
              · go_wp2_with fail
                have hxs : xs.length = (min (0 : Int) 5).toNat := by omega
                have hL5 : (min (0 : Int) 5).toNat ≤ 1000 := by omega
                generalize (min (0 : Int) 5).toNat = L at *
                generalize (wr.alloc (Obj.cells #[Value.int IntKind.i64 fk, Value.int IntKind.i64 fn, Value.slice none 0 0] 57)) = WD at *
                generalize wr.heap.size = D at *
                have d0 : WD.cell? ⟨D, 0, none⟩ = some (.int .i64 fk) := blk_cell aD 0
                have d1 : WD.cell? ⟨D, 1, none⟩ = some (.int .i64 fn) := blk_cell aD 1
                have dD := hide d1
                have pn := hide (take_some R R (Nat.le_refl _) vv ts S k hle hlB hsB none 0 L xs hxs hL5 WD lsD.out.rd lsD.out.tv (txs_at O5.out lsD.out))
                have pr := hide (fun w' h1 h2 h3 => refTake Q R (Nat.le_of_lt lsD.out.lt) (.slice ua ts.length ucap) ts S k hle hlB hsB none 0 L xs hxs hL5 w' h1 h2 h3)
                have tl2 := hide (takes_le ts S k hle xs 0 (by omega))
                generalize takes (fun i => tokAt ts S k i) 0 xs = b at *
                refine pn.out.mono ?_
                rintro e w5 ⟨rfl, r5, g5⟩
                have R5 := hide r5
                have G5 := hide g5
                clear r5 g5 d0 d1 dD pn
                go_wp2_with fail
                refine (pr.out _ (lsD.out.rq.chg G5.out (by have := lsD.out.lt; omega)) (lsD.out.tu.chg G5.out (fun b hb e => by omega)) ((txs_at O5.out lsD.out).chg G5.out (fun b hb e => by omega))).mono ?_
                rintro e w7 ⟨rfl, r7, g7⟩
                have hj : (if b = true then k + L else k) ≤ ts.length := by
                  split
                  · have := tl2.out (by assumption); omega
                  · exact hle
                have ls7 := hide (lsD.out.step R5.out G5.out r7 g7 hj)
                generalize (if b = true then k + L else k) = kk at *
                clear r7 g7 R5 G5 pr lsD aD tl2 hj
                go_wp2_with fail
                have rpl := hide (fun w' h1 h2 => refPlace Q R (.slice ua ts.length ucap) ts S kk ls7.out.le hlB hsB tA.out w' h1 h2)
                have ppl := hide (place_some R R vv ts S kk ls7.out.le hlB hsB tA.out w7 ls7.out.rd ls7.out.tv)
                generalize markAt ts S kk = mm at *
                obtain ⟨m0, m1⟩ := mm
                dsimp only at rpl ppl
                refine ppl.out.mono ?_
                rintro e w8 ⟨rfl, g8⟩
                have ls9 := hide ((ls7.out.keep g8).keep (al w8 (.cells #[.int .i64 m0, .int .i64 m1] 25)))
                have a9 := blk_new w8 (.cells #[.int .i64 m0, .int .i64 m1] 25)
                clear g8
                go_wp2_with fail
                generalize (w8.alloc (Obj.cells #[Value.int IntKind.i64 m0, Value.int IntKind.i64 m1] 25)) = W9 at *
                generalize w8.heap.size = D9 at *
                have c0 : W9.cell? ⟨D9, 0, none⟩ = some (.int .i64 m0) := blk_cell a9 0
                have c1 : W9.cell? ⟨D9, 1, none⟩ = some (.int .i64 m1) := blk_cell a9 1
                have ls9d := hide (ls9.out.keep (Chg.refl _ _).drew)
                obtain ⟨bl, hbl⟩ : ∃ bl, bl = decide (L = 0) := ⟨_, rfl⟩
                have tn := hide (fun w' h => take_nil none 0 L w' R xs hxs h)
                rw [← hbl] at tn
                have eL : ((L : Int) == 0) = bl := by rw [hbl]; by_cases h : L = 0 <;> simp [h]
                clear a9 ls9 hbl
                go_region_held3 (fun w' => w'.cell? ⟨D9, 0, none⟩ = some (.int .i64 m0) ∧ w'.cell? ⟨D9, 1, none⟩ = some (.int .i64 m1))
                  (go_keep)
                  (first
                    | (go_at_call 26; refine (rpl.out W9.drew ls9d.out.rq ls9d.out.tu).mono ?_; rintro e w10 ⟨rfl, g10⟩; have x0 : w10.cell? ⟨D9, 0, none⟩ = some (.int .i64 m0) := g10.cell (fun h => h) c0; have x1 : w10.cell? ⟨D9, 1, none⟩ = some (.int .i64 m1) := g10.cell (fun h => h) c1; have ls10 := hide (ls9d.out.keep g10))
                    | (go_at_call 23; refine (tn.out w10 (txs_at O5.out ls10.out)).mono ?_; rintro e w11 ⟨rfl, g11⟩; have y0 : w11.cell? ⟨D9, 0, none⟩ = some (.int .i64 m0) := g11.cell (fun h => h) x0; have y1 : w11.cell? ⟨D9, 1, none⟩ = some (.int .i64 m1) := g11.cell (fun h => h) x1; have ls11 := hide (ls10.out.keep g11)))
                clear c0 c1 x0 x1 y0 y1 g10 g11 rpl ppl tn ls9d ls10
                go_wp2_with fail
                go_roundw
                case rel => exact ⟨i + 1, _, by omega, by omega, by go_num, ls11⟩
                case measure => simp [intOf]; omega
              · have k2 := Bool.eq_false_iff.2 k2
                have pf := hide (fun w' h1 h2 => fail_some R R vv ts S k fn hle hlB hsB tA.out tX.out w' h1 h2)
                have pq := hide (fun w' h1 h2 => refPlace Q R (.slice ua ts.length ucap) ts S k hle hlB hsB tA.out w' h1 h2)
                have pr := hide (fun w' h1 h2 => refPeek Q R (.slice ua ts.length ucap) ts S k 0 hle hlB hsB w' h1 h2)
                obtain ⟨t, ht⟩ : ∃ t, t = tokAt ts S k 0 := ⟨_, rfl⟩
                have hts : t.2.1.size ≤ 9223372036854775807 := by
                  rw [ht]; exact tok_size tX.out k
                rw [← ht] at pf pr
                clear ht
                obtain ⟨t0, t1, t2⟩ := t
                dsimp only at hts pf
                have etv : tokV (t0, t1, t2) = .agg #[.int .i64 t0, .string t1, .int .i64 (t2 : Int)] := rfl
                rw [etv] at pr
                clear etv
                have hhd := hide (fun w' => refHead t1 hts w')
                have hfl := field58_1 (.int .i64 t0) (.string t1) (.int .i64 (t2 : Int))
                obtain ⟨mm, hmm⟩ : ∃ mm, mm = markAt ts S k := ⟨_, rfl⟩
                rw [← hmm] at pf pq
                clear hmm
                obtain ⟨n0, n1⟩ := mm
                dsimp only at pf pq
                generalize headOf t1 = hw at *
                have hft := hide (fun w' => fault_any fn n0 n1 hw w')
                go_wp2_with fail
                have hxs : xs.length = (min (0 : Int) 5).toNat := by omega
                have hL5 : (min (0 : Int) 5).toNat ≤ 1000 := by omega
                generalize (min (0 : Int) 5).toNat = L at *
                generalize (wr.alloc (Obj.cells #[Value.int IntKind.i64 fk, Value.int IntKind.i64 fn, Value.slice none 0 0] 57)) = WD at *
                generalize wr.heap.size = D at *
                have d0 : WD.cell? ⟨D, 0, none⟩ = some (.int .i64 fk) := blk_cell aD 0
                have d1 : WD.cell? ⟨D, 1, none⟩ = some (.int .i64 fn) := blk_cell aD 1
                have dD := hide d1
                refine (pf.out _ lsD.out.rd lsD.out.tv).mono ?_
                rintro e w5 ⟨rfl, g5⟩
                have ls5 := hide ((lsD.out.keep g5).keep (al w5 (.cells #[.int .i64 fn, .int .i64 n0, .int .i64 n1, .string hw] 27)))
                have a5 := blk_new w5 (.cells #[.int .i64 fn, .int .i64 n0, .int .i64 n1, .string hw] 27)
                have b1 : (w5.alloc (.cells #[.int .i64 fn, .int .i64 n0, .int .i64 n1, .string hw] 27)).cell? ⟨D, 1, none⟩ = some (.int .i64 fn) := (al w5 _).cell (fun h => h) (g5.cell (fun h => h) dD.out)
                clear g5 d0 d1 dD lsD aD pf
                go_wp2_with fail
                generalize (w5.alloc (Obj.cells #[Value.int IntKind.i64 fn, Value.int IntKind.i64 n0, Value.int IntKind.i64 n1, Value.string hw] 27)) = W5 at *
                generalize w5.heap.size = E at *
                have q0 : W5.cell? ⟨E, 0, none⟩ = some (.int .i64 fn) := blk_cell a5 0
                have q1 : W5.cell? ⟨E, 1, none⟩ = some (.int .i64 n0) := blk_cell a5 1
                have q2 : W5.cell? ⟨E, 2, none⟩ = some (.int .i64 n1) := blk_cell a5 2
                have q3 : W5.cell? ⟨E, 3, none⟩ = some (.string hw) := blk_cell a5 3
                have lsd := hide (ls5.out.keep (Chg.refl _ _).drew)
                go_region_held3 (fun w' => w'.cell? ⟨E, 0, none⟩ = some (.int .i64 fn) ∧ w'.cell? ⟨E, 1, none⟩ = some (.int .i64 n0) ∧ w'.cell? ⟨E, 2, none⟩ = some (.int .i64 n1) ∧ w'.cell? ⟨E, 3, none⟩ = some (.string hw) ∧ w'.cell? ⟨D, 1, none⟩ = some (.int .i64 fn))
                  (go_keep)
                  (first
                    | (go_at_call 12; refine (hft.out _).mono ?_; rintro e w6 ⟨rfl, g6'⟩; have g6 := Chg.ofB g6'; have x0 : w6.cell? ⟨E, 0, none⟩ = some (.int .i64 fn) := g6.cell (fun h => h) q0; have x1 : w6.cell? ⟨E, 1, none⟩ = some (.int .i64 n0) := g6.cell (fun h => h) q1; have x2 : w6.cell? ⟨E, 2, none⟩ = some (.int .i64 n1) := g6.cell (fun h => h) q2; have x3 : w6.cell? ⟨E, 3, none⟩ = some (.string hw) := g6.cell (fun h => h) q3; have x4 : w6.cell? ⟨D, 1, none⟩ = some (.int .i64 fn) := g6.cell (fun h => h) b1; have ls6 := hide (lsd.out.keep g6))
                    | (go_at_call 26; refine (pq.out w6 ls6.out.rq ls6.out.tu).mono ?_; rintro e w61 ⟨rfl, g61⟩; have y0 : w61.cell? ⟨E, 0, none⟩ = some (.int .i64 fn) := g61.cell (fun h => h) x0; have y1 : w61.cell? ⟨E, 1, none⟩ = some (.int .i64 n0) := g61.cell (fun h => h) x1; have y2 : w61.cell? ⟨E, 2, none⟩ = some (.int .i64 n1) := g61.cell (fun h => h) x2; have y3 : w61.cell? ⟨E, 3, none⟩ = some (.string hw) := g61.cell (fun h => h) x3; have y4 : w61.cell? ⟨D, 1, none⟩ = some (.int .i64 fn) := g61.cell (fun h => h) x4; have ls61 := hide (ls6.out.keep g61))
                    | (go_at_call 22; refine (pr.out w61 ls61.out.rq ls61.out.tu).mono ?_; rintro e w7 ⟨rfl, g7⟩; have z0 : w7.cell? ⟨E, 0, none⟩ = some (.int .i64 fn) := g7.cell (fun h => h) y0; have z1 : w7.cell? ⟨E, 1, none⟩ = some (.int .i64 n0) := g7.cell (fun h => h) y1; have z2 : w7.cell? ⟨E, 2, none⟩ = some (.int .i64 n1) := g7.cell (fun h => h) y2; have z3 : w7.cell? ⟨E, 3, none⟩ = some (.string hw) := g7.cell (fun h => h) y3; have z4 : w7.cell? ⟨D, 1, none⟩ = some (.int .i64 fn) := g7.cell (fun h => h) y4; have ls7 := hide (ls61.out.keep g7))
                    | (go_at_call 27; refine (hhd.out _).mono ?_; rintro e w71 ⟨rfl, rfl⟩))
                clear q0 q1 q2 q3 b1 x0 x1 x2 x3 x4 y0 y1 y2 y3 y4 z0 z1 z2 z3 z4 g6 g6' g61 g7 lsd ls5 ls6 ls61 a5 pq pr hhd hfl hft
                go_wp2_with fail
                have rpl := hide (fun w' h1 h2 => refPlace Q R (.slice ua ts.length ucap) ts S k ls7.out.le hlB hsB tA.out w' h1 h2)
                have ppl := hide (place_some R R vv ts S k ls7.out.le hlB hsB tA.out w7 ls7.out.rd ls7.out.tv)
                generalize markAt ts S k = mm at *
                obtain ⟨m0, m1⟩ := mm
                dsimp only at rpl ppl
                refine ppl.out.mono ?_
                rintro e w8 ⟨rfl, g8⟩
                have ls9 := hide ((ls7.out.keep g8).keep (al w8 (.cells #[.int .i64 m0, .int .i64 m1] 25)))
                have a9 := blk_new w8 (.cells #[.int .i64 m0, .int .i64 m1] 25)
                clear g8
                go_wp2_with fail
                generalize (w8.alloc (Obj.cells #[Value.int IntKind.i64 m0, Value.int IntKind.i64 m1] 25)) = W9 at *
                generalize w8.heap.size = D9 at *
                have c0 : W9.cell? ⟨D9, 0, none⟩ = some (.int .i64 m0) := blk_cell a9 0
                have c1 : W9.cell? ⟨D9, 1, none⟩ = some (.int .i64 m1) := blk_cell a9 1
                have ls9d := hide (ls9.out.keep (Chg.refl _ _).drew)
                obtain ⟨bl, hbl⟩ : ∃ bl, bl = decide (L = 0) := ⟨_, rfl⟩
                have tn := hide (fun w' h => take_nil none 0 L w' R xs hxs h)
                rw [← hbl] at tn
                have eL : ((L : Int) == 0) = bl := by rw [hbl]; by_cases h : L = 0 <;> simp [h]
                clear a9 ls9 hbl
                go_region_held3 (fun w' => w'.cell? ⟨D9, 0, none⟩ = some (.int .i64 m0) ∧ w'.cell? ⟨D9, 1, none⟩ = some (.int .i64 m1))
                  (go_keep)
                  (first
                    | (go_at_call 26; refine (rpl.out W9.drew ls9d.out.rq ls9d.out.tu).mono ?_; rintro e w10 ⟨rfl, g10⟩; have x0 : w10.cell? ⟨D9, 0, none⟩ = some (.int .i64 m0) := g10.cell (fun h => h) c0; have x1 : w10.cell? ⟨D9, 1, none⟩ = some (.int .i64 m1) := g10.cell (fun h => h) c1; have ls10 := hide (ls9d.out.keep g10))
                    | (go_at_call 23; refine (tn.out w10 (txs_at O5.out ls10.out)).mono ?_; rintro e w11 ⟨rfl, g11⟩; have y0 : w11.cell? ⟨D9, 0, none⟩ = some (.int .i64 m0) := g11.cell (fun h => h) x0; have y1 : w11.cell? ⟨D9, 1, none⟩ = some (.int .i64 m1) := g11.cell (fun h => h) x1; have ls11 := hide (ls10.out.keep g11)))
                clear c0 c1 x0 x1 y0 y1 g10 g11 rpl ppl tn ls9d ls10
                go_wp2_with fail
                go_roundw
                case rel => exact ⟨i + 1, _, by omega, by omega, by go_num, ls11⟩
                case measure => simp [intOf]; omega
        | some ad =>
          by_cases k0 : ((IntKind.u64.wrap fk).tmod 4 == 0) = true
          · have pn := hide (fun w' h1 h2 => next_some R R vv ts S k hle hlB hsB w' h1 h2)
            have pr := hide (fun w' h1 h2 => refNext Q R (.slice ua ts.length ucap) ts S k hle hlB hsB w' h1 h2)
            obtain ⟨t, ht⟩ : ∃ t, t = tokAt ts S k 0 := ⟨_, rfl⟩
            rw [← ht] at pn pr
            clear ht
            obtain ⟨t0, t1, t2⟩ := t
            have etv : tokV (t0, t1, t2) = .agg #[.int .i64 t0, .string t1, .int .i64 (t2 : Int)] := rfl
            rw [etv] at pn pr
            clear etv
            have hof := hide (fun w' => of_token t0 t1 t2 w')
            go_wp2_with fail
            have hxs : xs.length = (min (fl : Int) 5).toNat := by omega
            have hL5 : (min (fl : Int) 5).toNat ≤ 1000 := by omega
            generalize (min (fl : Int) 5).toNat = L at *
            generalize (wr.alloc (Obj.cells #[Value.int IntKind.i64 fk, Value.int IntKind.i64 fn, Value.slice (some ad) fl fc] 57)) = WD at *
            generalize wr.heap.size = D at *
            have d0 : WD.cell? ⟨D, 0, none⟩ = some (.int .i64 fk) := blk_cell aD 0
            have d1 : WD.cell? ⟨D, 1, none⟩ = some (.int .i64 fn) := blk_cell aD 1
            have dD := hide d1
            refine (pn.out _ lsD.out.rd lsD.out.tv).mono ?_
            rintro e w5 ⟨rfl, r5, g5⟩
            have R5 := hide r5
            have G5 := hide g5
            clear r5 g5 d0 d1 dD
            go_wp2_with fail
            refine (hof.out _).mono ?_
            rintro e w6 ⟨rfl, g6⟩
            have G6 := hide (Chg.ofB g6)
            clear g6
            go_wp2_with fail
            refine (pr.out _ ((lsD.out.rq.chg G5.out (by have := lsD.out.lt; omega)).chg G6.out (fun h => h)) ((lsD.out.tu.chg G5.out (fun b hb e => by omega)).chg G6.out (fun _ _ h => h))).mono ?_
            rintro e w7 ⟨rfl, r7, g7⟩
            have ls7 := hide (lsD.out.step R5.out G5.out r7 (G6.out.none.trans g7) (on_le hle))
            clear r7 g7 R5 G5 G6 pn pr hof lsD aD
            go_wp2_with fail
            have rpl := hide (fun w' h1 h2 => refPlace Q R (.slice ua ts.length ucap) ts S (on ts k) ls7.out.le hlB hsB tA.out w' h1 h2)
            have ppl := hide (place_some R R vv ts S (on ts k) ls7.out.le hlB hsB tA.out w7 ls7.out.rd ls7.out.tv)
            generalize markAt ts S (on ts k) = mm at *
            obtain ⟨m0, m1⟩ := mm
            dsimp only at rpl ppl
            refine ppl.out.mono ?_
            rintro e w8 ⟨rfl, g8⟩
            have ls9 := hide ((ls7.out.keep g8).keep (al w8 (.cells #[.int .i64 m0, .int .i64 m1] 25)))
            have a9 := blk_new w8 (.cells #[.int .i64 m0, .int .i64 m1] 25)
            clear g8
            go_wp2_with fail
            generalize (w8.alloc (Obj.cells #[Value.int IntKind.i64 m0, Value.int IntKind.i64 m1] 25)) = W9 at *
            generalize w8.heap.size = D9 at *
            have c0 : W9.cell? ⟨D9, 0, none⟩ = some (.int .i64 m0) := blk_cell a9 0
            have c1 : W9.cell? ⟨D9, 1, none⟩ = some (.int .i64 m1) := blk_cell a9 1
            have ls9d := hide (ls9.out.keep (Chg.refl _ _).drew)
            obtain ⟨bl, hbl⟩ : ∃ bl, bl = decide (L = 0) := ⟨_, rfl⟩
            have tn := hide (fun w' h => take_nil (some ad) fc L w' R xs hxs h)
            rw [← hbl] at tn
            have eL : ((L : Int) == 0) = bl := by rw [hbl]; by_cases h : L = 0 <;> simp [h]
            clear a9 ls9 hbl
            go_region_held3 (fun w' => w'.cell? ⟨D9, 0, none⟩ = some (.int .i64 m0) ∧ w'.cell? ⟨D9, 1, none⟩ = some (.int .i64 m1))
              (go_keep)
              (first
                | (go_at_call 26; refine (rpl.out W9.drew ls9d.out.rq ls9d.out.tu).mono ?_; rintro e w10 ⟨rfl, g10⟩; have x0 : w10.cell? ⟨D9, 0, none⟩ = some (.int .i64 m0) := g10.cell (fun h => h) c0; have x1 : w10.cell? ⟨D9, 1, none⟩ = some (.int .i64 m1) := g10.cell (fun h => h) c1; have ls10 := hide (ls9d.out.keep g10))
                | (go_at_call 23; refine (tn.out w10 (txs_at O5.out ls10.out)).mono ?_; rintro e w11 ⟨rfl, g11⟩; have y0 : w11.cell? ⟨D9, 0, none⟩ = some (.int .i64 m0) := g11.cell (fun h => h) x0; have y1 : w11.cell? ⟨D9, 1, none⟩ = some (.int .i64 m1) := g11.cell (fun h => h) x1; have ls11 := hide (ls10.out.keep g11)))
            clear c0 c1 x0 x1 y0 y1 g10 g11 rpl ppl tn ls9d ls10
            go_wp2_with fail
            go_roundw
            case rel => exact ⟨i + 1, _, by omega, by omega, by go_num, ls11⟩
            case measure => simp [intOf]; omega
          · have k0 := Bool.eq_false_iff.2 k0
            by_cases k1 : ((IntKind.u64.wrap fk).tmod 4 == 1) = true
            · have pn := hide (fun w' h1 h2 => peek_some R R vv ts S k fn hle hlB hsB w' h1 h2)
              have pr := hide (fun w' h1 h2 => refPeek Q R (.slice ua ts.length ucap) ts S k fn hle hlB hsB w' h1 h2)
              obtain ⟨t, ht⟩ : ∃ t, t = tokAt ts S k fn := ⟨_, rfl⟩
              rw [← ht] at pn pr
              clear ht
              obtain ⟨t0, t1, t2⟩ := t
              have etv : tokV (t0, t1, t2) = .agg #[.int .i64 t0, .string t1, .int .i64 (t2 : Int)] := rfl
              rw [etv] at pn pr
              clear etv
              have hof := hide (fun w' => of_token t0 t1 t2 w')
              go_wp2_with fail
              have hxs : xs.length = (min (fl : Int) 5).toNat := by omega
              have hL5 : (min (fl : Int) 5).toNat ≤ 1000 := by omega
              generalize (min (fl : Int) 5).toNat = L at *
              generalize (wr.alloc (Obj.cells #[Value.int IntKind.i64 fk, Value.int IntKind.i64 fn, Value.slice (some ad) fl fc] 57)) = WD at *
              generalize wr.heap.size = D at *
              have d0 : WD.cell? ⟨D, 0, none⟩ = some (.int .i64 fk) := blk_cell aD 0
              have d1 : WD.cell? ⟨D, 1, none⟩ = some (.int .i64 fn) := blk_cell aD 1
              have dD := hide d1
              have lsd := hide (lsD.out.keep (Chg.refl _ _).drew)
              go_region_held3 (fun w' => w'.cell? ⟨D, 1, none⟩ = some (.int .i64 fn))
                (go_keep)
                (first
                  | (go_at_call 21; refine (pn.out WD.drew lsd.out.rd lsd.out.tv).mono ?_; rintro e w5 ⟨rfl, g5⟩; have x0 : w5.cell? ⟨D, 1, none⟩ = some (.int .i64 fn) := g5.cell (fun h => h) d1; have ls5 := hide (lsd.out.keep g5))
                  | (go_at_call 18; refine (hof.out _).mono ?_; rintro e w6 ⟨rfl, g6⟩; have x1 : w6.cell? ⟨D, 1, none⟩ = some (.int .i64 fn) := (Chg.ofB g6).cell (fun h => h) x0; have ls6 := hide (ls5.out.keep (Chg.ofB g6)))
                  | (go_at_call 22; refine (pr.out w6 ls6.out.rq ls6.out.tu).mono ?_; rintro e w7 ⟨rfl, g7⟩; have x2 : w7.cell? ⟨D, 1, none⟩ = some (.int .i64 fn) := g7.cell (fun h => h) x1; have ls7 := hide (ls6.out.keep g7)))
              clear x0 x1 x2 g5 g6 g7 ls5 ls6 lsd lsD aD d0 d1 dD pn pr hof
              go_wp2_with fail
              have rpl := hide (fun w' h1 h2 => refPlace Q R (.slice ua ts.length ucap) ts S k ls7.out.le hlB hsB tA.out w' h1 h2)
              have ppl := hide (place_some R R vv ts S k ls7.out.le hlB hsB tA.out w7 ls7.out.rd ls7.out.tv)
              generalize markAt ts S k = mm at *
              obtain ⟨m0, m1⟩ := mm
              dsimp only at rpl ppl
              refine ppl.out.mono ?_
              rintro e w8 ⟨rfl, g8⟩
              have ls9 := hide ((ls7.out.keep g8).keep (al w8 (.cells #[.int .i64 m0, .int .i64 m1] 25)))
              have a9 := blk_new w8 (.cells #[.int .i64 m0, .int .i64 m1] 25)
              clear g8
              go_wp2_with fail
              generalize (w8.alloc (Obj.cells #[Value.int IntKind.i64 m0, Value.int IntKind.i64 m1] 25)) = W9 at *
              generalize w8.heap.size = D9 at *
              have c0 : W9.cell? ⟨D9, 0, none⟩ = some (.int .i64 m0) := blk_cell a9 0
              have c1 : W9.cell? ⟨D9, 1, none⟩ = some (.int .i64 m1) := blk_cell a9 1
              have ls9d := hide (ls9.out.keep (Chg.refl _ _).drew)
              obtain ⟨bl, hbl⟩ : ∃ bl, bl = decide (L = 0) := ⟨_, rfl⟩
              have tn := hide (fun w' h => take_nil (some ad) fc L w' R xs hxs h)
              rw [← hbl] at tn
              have eL : ((L : Int) == 0) = bl := by rw [hbl]; by_cases h : L = 0 <;> simp [h]
              clear a9 ls9 hbl
              go_region_held3 (fun w' => w'.cell? ⟨D9, 0, none⟩ = some (.int .i64 m0) ∧ w'.cell? ⟨D9, 1, none⟩ = some (.int .i64 m1))
                (go_keep)
                (first
                  | (go_at_call 26; refine (rpl.out W9.drew ls9d.out.rq ls9d.out.tu).mono ?_; rintro e w10 ⟨rfl, g10⟩; have x0 : w10.cell? ⟨D9, 0, none⟩ = some (.int .i64 m0) := g10.cell (fun h => h) c0; have x1 : w10.cell? ⟨D9, 1, none⟩ = some (.int .i64 m1) := g10.cell (fun h => h) c1; have ls10 := hide (ls9d.out.keep g10))
                  | (go_at_call 23; refine (tn.out w10 (txs_at O5.out ls10.out)).mono ?_; rintro e w11 ⟨rfl, g11⟩; have y0 : w11.cell? ⟨D9, 0, none⟩ = some (.int .i64 m0) := g11.cell (fun h => h) x0; have y1 : w11.cell? ⟨D9, 1, none⟩ = some (.int .i64 m1) := g11.cell (fun h => h) x1; have ls11 := hide (ls10.out.keep g11)))
              clear c0 c1 x0 x1 y0 y1 g10 g11 rpl ppl tn ls9d ls10
              go_wp2_with fail
              go_roundw
              case rel => exact ⟨i + 1, _, by omega, by omega, by go_num, ls11⟩
              case measure => simp [intOf]; omega
            · have k1 := Bool.eq_false_iff.2 k1
              by_cases k2 : ((IntKind.u64.wrap fk).tmod 4 == 2) = true
              · go_wp2_with fail
                have hxs : xs.length = (min (fl : Int) 5).toNat := by omega
                have hL5 : (min (fl : Int) 5).toNat ≤ 1000 := by omega
                generalize (min (fl : Int) 5).toNat = L at *
                generalize (wr.alloc (Obj.cells #[Value.int IntKind.i64 fk, Value.int IntKind.i64 fn, Value.slice (some ad) fl fc] 57)) = WD at *
                generalize wr.heap.size = D at *
                have d0 : WD.cell? ⟨D, 0, none⟩ = some (.int .i64 fk) := blk_cell aD 0
                have d1 : WD.cell? ⟨D, 1, none⟩ = some (.int .i64 fn) := blk_cell aD 1
                have dD := hide d1
                have pn := hide (take_some R R (Nat.le_refl _) vv ts S k hle hlB hsB (some ad) fc L xs hxs hL5 WD lsD.out.rd lsD.out.tv (txs_at O5.out lsD.out))
                have pr := hide (fun w' h1 h2 h3 => refTake Q R (Nat.le_of_lt lsD.out.lt) (.slice ua ts.length ucap) ts S k hle hlB hsB (some ad) fc L xs hxs hL5 w' h1 h2 h3)
                have tl2 := hide (takes_le ts S k hle xs 0 (by omega))
                generalize takes (fun i => tokAt ts S k i) 0 xs = b at *
                refine pn.out.mono ?_
                rintro e w5 ⟨rfl, r5, g5⟩
                have R5 := hide r5
                have G5 := hide g5
                clear r5 g5 d0 d1 dD pn
                go_wp2_with fail
                refine (pr.out _ (lsD.out.rq.chg G5.out (by have := lsD.out.lt; omega)) (lsD.out.tu.chg G5.out (fun b hb e => by omega)) ((txs_at O5.out lsD.out).chg G5.out (fun b hb e => by omega))).mono ?_
                rintro e w7 ⟨rfl, r7, g7⟩
                have hj : (if b = true then k + L else k) ≤ ts.length := by
                  split
                  · have := tl2.out (by assumption); omega
                  · exact hle
                have ls7 := hide (lsD.out.step R5.out G5.out r7 g7 hj)
                generalize (if b = true then k + L else k) = kk at *
                clear r7 g7 R5 G5 pr lsD aD tl2 hj
                go_wp2_with fail
                have rpl := hide (fun w' h1 h2 => refPlace Q R (.slice ua ts.length ucap) ts S kk ls7.out.le hlB hsB tA.out w' h1 h2)
                have ppl := hide (place_some R R vv ts S kk ls7.out.le hlB hsB tA.out w7 ls7.out.rd ls7.out.tv)
                generalize markAt ts S kk = mm at *
                obtain ⟨m0, m1⟩ := mm
                dsimp only at rpl ppl
                refine ppl.out.mono ?_
                rintro e w8 ⟨rfl, g8⟩
                have ls9 := hide ((ls7.out.keep g8).keep (al w8 (.cells #[.int .i64 m0, .int .i64 m1] 25)))
                have a9 := blk_new w8 (.cells #[.int .i64 m0, .int .i64 m1] 25)
                clear g8
                go_wp2_with fail
                generalize (w8.alloc (Obj.cells #[Value.int IntKind.i64 m0, Value.int IntKind.i64 m1] 25)) = W9 at *
                generalize w8.heap.size = D9 at *
                have c0 : W9.cell? ⟨D9, 0, none⟩ = some (.int .i64 m0) := blk_cell a9 0
                have c1 : W9.cell? ⟨D9, 1, none⟩ = some (.int .i64 m1) := blk_cell a9 1
                have ls9d := hide (ls9.out.keep (Chg.refl _ _).drew)
                obtain ⟨bl, hbl⟩ : ∃ bl, bl = decide (L = 0) := ⟨_, rfl⟩
                have tn := hide (fun w' h => take_nil (some ad) fc L w' R xs hxs h)
                rw [← hbl] at tn
                have eL : ((L : Int) == 0) = bl := by rw [hbl]; by_cases h : L = 0 <;> simp [h]
                clear a9 ls9 hbl
                go_region_held3 (fun w' => w'.cell? ⟨D9, 0, none⟩ = some (.int .i64 m0) ∧ w'.cell? ⟨D9, 1, none⟩ = some (.int .i64 m1))
                  (go_keep)
                  (first
                    | (go_at_call 26; refine (rpl.out W9.drew ls9d.out.rq ls9d.out.tu).mono ?_; rintro e w10 ⟨rfl, g10⟩; have x0 : w10.cell? ⟨D9, 0, none⟩ = some (.int .i64 m0) := g10.cell (fun h => h) c0; have x1 : w10.cell? ⟨D9, 1, none⟩ = some (.int .i64 m1) := g10.cell (fun h => h) c1; have ls10 := hide (ls9d.out.keep g10))
                    | (go_at_call 23; refine (tn.out w10 (txs_at O5.out ls10.out)).mono ?_; rintro e w11 ⟨rfl, g11⟩; have y0 : w11.cell? ⟨D9, 0, none⟩ = some (.int .i64 m0) := g11.cell (fun h => h) x0; have y1 : w11.cell? ⟨D9, 1, none⟩ = some (.int .i64 m1) := g11.cell (fun h => h) x1; have ls11 := hide (ls10.out.keep g11)))
                clear c0 c1 x0 x1 y0 y1 g10 g11 rpl ppl tn ls9d ls10
                go_wp2_with fail
                go_roundw
                case rel => exact ⟨i + 1, _, by omega, by omega, by go_num, ls11⟩
                case measure => simp [intOf]; omega
              · have k2 := Bool.eq_false_iff.2 k2
                have pf := hide (fun w' h1 h2 => fail_some R R vv ts S k fn hle hlB hsB tA.out tX.out w' h1 h2)
                have pq := hide (fun w' h1 h2 => refPlace Q R (.slice ua ts.length ucap) ts S k hle hlB hsB tA.out w' h1 h2)
                have pr := hide (fun w' h1 h2 => refPeek Q R (.slice ua ts.length ucap) ts S k 0 hle hlB hsB w' h1 h2)
                obtain ⟨t, ht⟩ : ∃ t, t = tokAt ts S k 0 := ⟨_, rfl⟩
                have hts : t.2.1.size ≤ 9223372036854775807 := by
                  rw [ht]; exact tok_size tX.out k
                rw [← ht] at pf pr
                clear ht
                obtain ⟨t0, t1, t2⟩ := t
                dsimp only at hts pf
                have etv : tokV (t0, t1, t2) = .agg #[.int .i64 t0, .string t1, .int .i64 (t2 : Int)] := rfl
                rw [etv] at pr
                clear etv
                have hhd := hide (fun w' => refHead t1 hts w')
                have hfl := field58_1 (.int .i64 t0) (.string t1) (.int .i64 (t2 : Int))
                obtain ⟨mm, hmm⟩ : ∃ mm, mm = markAt ts S k := ⟨_, rfl⟩
                rw [← hmm] at pf pq
                clear hmm
                obtain ⟨n0, n1⟩ := mm
                dsimp only at pf pq
                generalize headOf t1 = hw at *
                have hft := hide (fun w' => fault_any fn n0 n1 hw w')
                go_wp2_with fail
                have hxs : xs.length = (min (fl : Int) 5).toNat := by omega
                have hL5 : (min (fl : Int) 5).toNat ≤ 1000 := by omega
                generalize (min (fl : Int) 5).toNat = L at *
                generalize (wr.alloc (Obj.cells #[Value.int IntKind.i64 fk, Value.int IntKind.i64 fn, Value.slice (some ad) fl fc] 57)) = WD at *
                generalize wr.heap.size = D at *
                have d0 : WD.cell? ⟨D, 0, none⟩ = some (.int .i64 fk) := blk_cell aD 0
                have d1 : WD.cell? ⟨D, 1, none⟩ = some (.int .i64 fn) := blk_cell aD 1
                have dD := hide d1
                refine (pf.out _ lsD.out.rd lsD.out.tv).mono ?_
                rintro e w5 ⟨rfl, g5⟩
                have ls5 := hide ((lsD.out.keep g5).keep (al w5 (.cells #[.int .i64 fn, .int .i64 n0, .int .i64 n1, .string hw] 27)))
                have a5 := blk_new w5 (.cells #[.int .i64 fn, .int .i64 n0, .int .i64 n1, .string hw] 27)
                have b1 : (w5.alloc (.cells #[.int .i64 fn, .int .i64 n0, .int .i64 n1, .string hw] 27)).cell? ⟨D, 1, none⟩ = some (.int .i64 fn) := (al w5 _).cell (fun h => h) (g5.cell (fun h => h) dD.out)
                clear g5 d0 d1 dD lsD aD pf
                go_wp2_with fail
                generalize (w5.alloc (Obj.cells #[Value.int IntKind.i64 fn, Value.int IntKind.i64 n0, Value.int IntKind.i64 n1, Value.string hw] 27)) = W5 at *
                generalize w5.heap.size = E at *
                have q0 : W5.cell? ⟨E, 0, none⟩ = some (.int .i64 fn) := blk_cell a5 0
                have q1 : W5.cell? ⟨E, 1, none⟩ = some (.int .i64 n0) := blk_cell a5 1
                have q2 : W5.cell? ⟨E, 2, none⟩ = some (.int .i64 n1) := blk_cell a5 2
                have q3 : W5.cell? ⟨E, 3, none⟩ = some (.string hw) := blk_cell a5 3
                have lsd := hide (ls5.out.keep (Chg.refl _ _).drew)
                go_region_held3 (fun w' => w'.cell? ⟨E, 0, none⟩ = some (.int .i64 fn) ∧ w'.cell? ⟨E, 1, none⟩ = some (.int .i64 n0) ∧ w'.cell? ⟨E, 2, none⟩ = some (.int .i64 n1) ∧ w'.cell? ⟨E, 3, none⟩ = some (.string hw) ∧ w'.cell? ⟨D, 1, none⟩ = some (.int .i64 fn))
                  (go_keep)
                  (first
                    | (go_at_call 12; refine (hft.out _).mono ?_; rintro e w6 ⟨rfl, g6'⟩; have g6 := Chg.ofB g6'; have x0 : w6.cell? ⟨E, 0, none⟩ = some (.int .i64 fn) := g6.cell (fun h => h) q0; have x1 : w6.cell? ⟨E, 1, none⟩ = some (.int .i64 n0) := g6.cell (fun h => h) q1; have x2 : w6.cell? ⟨E, 2, none⟩ = some (.int .i64 n1) := g6.cell (fun h => h) q2; have x3 : w6.cell? ⟨E, 3, none⟩ = some (.string hw) := g6.cell (fun h => h) q3; have x4 : w6.cell? ⟨D, 1, none⟩ = some (.int .i64 fn) := g6.cell (fun h => h) b1; have ls6 := hide (lsd.out.keep g6))
                    | (go_at_call 26; refine (pq.out w6 ls6.out.rq ls6.out.tu).mono ?_; rintro e w61 ⟨rfl, g61⟩; have y0 : w61.cell? ⟨E, 0, none⟩ = some (.int .i64 fn) := g61.cell (fun h => h) x0; have y1 : w61.cell? ⟨E, 1, none⟩ = some (.int .i64 n0) := g61.cell (fun h => h) x1; have y2 : w61.cell? ⟨E, 2, none⟩ = some (.int .i64 n1) := g61.cell (fun h => h) x2; have y3 : w61.cell? ⟨E, 3, none⟩ = some (.string hw) := g61.cell (fun h => h) x3; have y4 : w61.cell? ⟨D, 1, none⟩ = some (.int .i64 fn) := g61.cell (fun h => h) x4; have ls61 := hide (ls6.out.keep g61))
                    | (go_at_call 22; refine (pr.out w61 ls61.out.rq ls61.out.tu).mono ?_; rintro e w7 ⟨rfl, g7⟩; have z0 : w7.cell? ⟨E, 0, none⟩ = some (.int .i64 fn) := g7.cell (fun h => h) y0; have z1 : w7.cell? ⟨E, 1, none⟩ = some (.int .i64 n0) := g7.cell (fun h => h) y1; have z2 : w7.cell? ⟨E, 2, none⟩ = some (.int .i64 n1) := g7.cell (fun h => h) y2; have z3 : w7.cell? ⟨E, 3, none⟩ = some (.string hw) := g7.cell (fun h => h) y3; have z4 : w7.cell? ⟨D, 1, none⟩ = some (.int .i64 fn) := g7.cell (fun h => h) y4; have ls7 := hide (ls61.out.keep g7))
                    | (go_at_call 27; refine (hhd.out _).mono ?_; rintro e w71 ⟨rfl, rfl⟩))
                clear q0 q1 q2 q3 b1 x0 x1 x2 x3 x4 y0 y1 y2 y3 y4 z0 z1 z2 z3 z4 g6 g6' g61 g7 lsd ls5 ls6 ls61 a5 pq pr hhd hfl hft
                go_wp2_with fail
                have rpl := hide (fun w' h1 h2 => refPlace Q R (.slice ua ts.length ucap) ts S k ls7.out.le hlB hsB tA.out w' h1 h2)
                have ppl := hide (place_some R R vv ts S k ls7.out.le hlB hsB tA.out w7 ls7.out.rd ls7.out.tv)
                generalize markAt ts S k = mm at *
                obtain ⟨m0, m1⟩ := mm
                dsimp only at rpl ppl
                refine ppl.out.mono ?_
                rintro e w8 ⟨rfl, g8⟩
                have ls9 := hide ((ls7.out.keep g8).keep (al w8 (.cells #[.int .i64 m0, .int .i64 m1] 25)))
                have a9 := blk_new w8 (.cells #[.int .i64 m0, .int .i64 m1] 25)
                clear g8
                go_wp2_with fail
                generalize (w8.alloc (Obj.cells #[Value.int IntKind.i64 m0, Value.int IntKind.i64 m1] 25)) = W9 at *
                generalize w8.heap.size = D9 at *
                have c0 : W9.cell? ⟨D9, 0, none⟩ = some (.int .i64 m0) := blk_cell a9 0
                have c1 : W9.cell? ⟨D9, 1, none⟩ = some (.int .i64 m1) := blk_cell a9 1
                have ls9d := hide (ls9.out.keep (Chg.refl _ _).drew)
                obtain ⟨bl, hbl⟩ : ∃ bl, bl = decide (L = 0) := ⟨_, rfl⟩
                have tn := hide (fun w' h => take_nil (some ad) fc L w' R xs hxs h)
                rw [← hbl] at tn
                have eL : ((L : Int) == 0) = bl := by rw [hbl]; by_cases h : L = 0 <;> simp [h]
                clear a9 ls9 hbl
                go_region_held3 (fun w' => w'.cell? ⟨D9, 0, none⟩ = some (.int .i64 m0) ∧ w'.cell? ⟨D9, 1, none⟩ = some (.int .i64 m1))
                  (go_keep)
                  (first
                    | (go_at_call 26; refine (rpl.out W9.drew ls9d.out.rq ls9d.out.tu).mono ?_; rintro e w10 ⟨rfl, g10⟩; have x0 : w10.cell? ⟨D9, 0, none⟩ = some (.int .i64 m0) := g10.cell (fun h => h) c0; have x1 : w10.cell? ⟨D9, 1, none⟩ = some (.int .i64 m1) := g10.cell (fun h => h) c1; have ls10 := hide (ls9d.out.keep g10))
                    | (go_at_call 23; refine (tn.out w10 (txs_at O5.out ls10.out)).mono ?_; rintro e w11 ⟨rfl, g11⟩; have y0 : w11.cell? ⟨D9, 0, none⟩ = some (.int .i64 m0) := g11.cell (fun h => h) x0; have y1 : w11.cell? ⟨D9, 1, none⟩ = some (.int .i64 m1) := g11.cell (fun h => h) x1; have ls11 := hide (ls10.out.keep g11)))
                clear c0 c1 x0 x1 y0 y1 g10 g11 rpl ppl tn ls9d ls10
                go_wp2_with fail
                go_roundw
                case rel => exact ⟨i + 1, _, by omega, by omega, by go_num, ls11⟩
                case measure => simp [intOf]; omega
      · have pn := hide (fun w' => next_nil w')
        have pp := hide (fun w' => peek_nil 3 w')
        have pl := hide (fun w' => place_nil w')
        have pf := hide (fun w' => fail_nil 4 w')
        have etv : tokV (4, ⟨#[]⟩, 0) = .agg #[.int .i64 4, .string ⟨#[]⟩, .int .i64 0] := rfl
        rw [etv] at pn pp
        clear etv
        go_wp2_with fail
        refine (pn.out _).mono ?_
        rintro e w5 ⟨rfl, g5⟩
        go_wp2_with fail
        refine (pp.out _).mono ?_
        rintro e w6 ⟨rfl, g6⟩
        go_wp2_with fail
        refine (pl.out _).mono ?_
        rintro e w7 ⟨rfl, g7⟩
        go_wp2_with fail
        refine (pf.out _).mono ?_
        rintro e w8 ⟨rfl, g8⟩
        have F := hide (((((ls.out.keep g5).keep g6).keep g7).keep g8).below)
        clear g5 g6 g7 g8
        go_wp2_with fail
        go_ret
        exact ⟨rfl, F.out⟩
    · have pn := hide (fun w' => next_nil w')
      have pp := hide (fun w' => peek_nil 3 w')
      have pl := hide (fun w' => place_nil w')
      have pf := hide (fun w' => fail_nil 4 w')
      have etv : tokV (4, ⟨#[]⟩, 0) = .agg #[.int .i64 4, .string ⟨#[]⟩, .int .i64 0] := rfl
      rw [etv] at pn pp
      clear etv
      go_wp2_with fail
      refine (pn.out _).mono ?_
      rintro e w5 ⟨rfl, g5⟩
      go_wp2_with fail
      refine (pp.out _).mono ?_
      rintro e w6 ⟨rfl, g6⟩
      go_wp2_with fail
      refine (pl.out _).mono ?_
      rintro e w7 ⟨rfl, g7⟩
      go_wp2_with fail
      refine (pf.out _).mono ?_
      rintro e w8 ⟨rfl, g8⟩
      have F := hide (((((ls.out.keep g5).keep g6).keep g7).keep g8).below)
      clear g5 g6 g7 g8
      go_wp2_with fail
      go_ret
      exact ⟨rfl, F.out⟩

set_option maxRecDepth 100000 in
set_option maxHeartbeats 16000000 in
theorem reads_zero (s : ByteArray) (hsl : s.size ≤ 9223372036854775807) (a : Addr) (cap : Nat) (h3 : cap ≤ 9223372036854775807) (w : World) :
    Calls Try.prog 6 #[.string s, .slice (some a) 0 cap] w fun e w' => e = .returned (.bool true) ∧ Below w.heap.size w w' := by
  have hx : (s.extract 0 (min (s.size : Int) 300).toNat).size ≤ 20000 := by simp; omega
  go_enter Try.func6, Try.ntmps6
  go_wp2_with fail
  generalize s.extract 0 (min (s.size : Int) 300).toNat = S at *
  obtain ⟨F, hF⟩ : ∃ F, F = flt S (lexG S (S.size + 1) 0 false) := ⟨_, rfl⟩
  have sp := hide (fun w => split_told S hx w F hF)
  have rp := hide (fun w => refSplit_told S hx w F hF)
  have tl := toks_len S
  have tb := hide (toks_bd S)
  generalize toksOf (lexG S (S.size + 1) 0 false) = ts at *
  obtain ⟨f0, f1, f2, f3⟩ := F
  clear hF
  refine (sp.out _).mono ?_
  rintro e w1 ⟨⟨v, rfl, hv⟩, hB1⟩
  go_wp2_with fail
  refine (rp.out _).mono ?_
  rintro e w2 ⟨⟨u, rfl, hu⟩, hB2⟩
  have k0 := blk_new w1 (.cells #[.int .i64 f0, .int .i64 f1, .int .i64 f2, .string f3] 27)
  have hsz : (w1.alloc (.cells #[.int .i64 f0, .int .i64 f1, .int .i64 f2, .string f3] 27)).heap.size = w1.heap.size + 1 := by simp
  have hv2 := (hv.below ((Below.refl _ w1).alloc (Nat.le_refl _) _)).below hB2
  have k2 := (hB2.block w1.heap.size (by rw [hsz]; omega)).trans k0
  have hBw : Below w.heap.size w w2 := (hB1.alloc hB1.size _).trans (hB2.mono (by rw [hsz]; have := hB1.size; omega))
  clear hB1 hB2 hv k0 hsz
  go_wp2_with fail
  have kf := hide (fun w => fault_any f0 f1 f2 f3 w)
  have kn := hide known_any
  have h2s : w1.heap.size < w2.heap.size := blk_lt k2
  obtain ⟨W0, hW0⟩ : ∃ W0, W0 = w2.alloc (Obj.cells #[Value.int IntKind.i64 f0, Value.int IntKind.i64 f1, Value.int IntKind.i64 f2, Value.string f3] 33) := ⟨_, rfl⟩
  have q1 : W0.heap[w1.heap.size]? = some (Obj.cells #[Value.int IntKind.i64 f0, Value.int IntKind.i64 f1, Value.int IntKind.i64 f2, Value.string f3] 27) := by
    rw [hW0]; exact (((Below.refl _ w2).alloc (Nat.le_refl _) _).block w1.heap.size h2s).trans k2
  have q2 : W0.heap[w2.heap.size]? = some (Obj.cells #[Value.int IntKind.i64 f0, Value.int IntKind.i64 f1, Value.int IntKind.i64 f2, Value.string f3] 33) := by
    rw [hW0]; exact blk_new w2 _
  have qv : IsToks W0 v ts := by rw [hW0]; exact hv2.below ((Below.refl _ w2).alloc (Nat.le_refl _) _)
  have qu : IsToks W0 u ts := by rw [hW0]; exact hu.below ((Below.refl _ w2).alloc (Nat.le_refl _) _)
  have qB : Below w.heap.size w W0 := by rw [hW0]; exact hBw.alloc hBw.size _
  rw [← hW0]
  generalize w1.heap.size = A at *
  generalize w2.heap.size = B at *
  clear hW0 k2 hv2 hu hBw sp rp
  have A0 := blk_cell q1 0
  have A1 := blk_cell q1 1
  have A2 := blk_cell q1 2
  have A3 := blk_cell q1 3
  have B0 := blk_cell q2 0
  have B1 := blk_cell q2 1
  have B2 := blk_cell q2 2
  have B3 := blk_cell q2 3
  have lA := blk_lt q1
  have lB := blk_lt q2
  have tl' : ts.length ≤ 100000 := by omega
  have HV := hide qv
  have HU := hide qu
  have HB := hide qB
  have Hc : Hid (Below W0.heap.size W0 W0) := hide (Below.refl _ W0)
  clear qv qu qB q1 q2
  go_wp2_with fail
  go_region_held3 (fun w' => w'.cell? ⟨A, 0, none⟩ = some (.int .i64 f0) ∧ w'.cell? ⟨A, 1, none⟩ = some (.int .i64 f1) ∧ w'.cell? ⟨A, 2, none⟩ = some (.int .i64 f2) ∧ w'.cell? ⟨A, 3, none⟩ = some (.string f3) ∧
      w'.cell? ⟨B, 0, none⟩ = some (.int .i64 f0) ∧ w'.cell? ⟨B, 1, none⟩ = some (.int .i64 f1) ∧ w'.cell? ⟨B, 2, none⟩ = some (.int .i64 f2) ∧ w'.cell? ⟨B, 3, none⟩ = some (.string f3))
    (go_keep)
    (first
      | (go_at_call 10; refine (kn.out _).mono ?_; rintro e w3 ⟨rfl, h3⟩; have Hd : Below W0.heap.size W0 w3 := (by first | exact step_on Hc.out h3 | exact step_in Hc.out h3); have DA0 := (Hd.cell (p := ⟨A, 0, none⟩) lA).trans A0; have DA1 := (Hd.cell (p := ⟨A, 1, none⟩) lA).trans A1; have DA2 := (Hd.cell (p := ⟨A, 2, none⟩) lA).trans A2; have DA3 := (Hd.cell (p := ⟨A, 3, none⟩) lA).trans A3; have DB0 := (Hd.cell (p := ⟨B, 0, none⟩) lB).trans B0; have DB1 := (Hd.cell (p := ⟨B, 1, none⟩) lB).trans B1; have DB2 := (Hd.cell (p := ⟨B, 2, none⟩) lB).trans B2; have DB3 := (Hd.cell (p := ⟨B, 3, none⟩) lB).trans B3; have hws := Hd.size; clear Hc; have Hc := hide Hd; clear Hd h3)
      | (go_at_call 11; refine (same_any v u ts tl' _ (HV.out.below (by first | exact Hc.out | exact Hc.out.drew)) (HU.out.below (by first | exact Hc.out | exact Hc.out.drew))).mono ?_; rintro e w3 ⟨rfl, h3⟩; have Hd : Below W0.heap.size W0 w3 := (by first | exact step_on Hc.out h3 | exact step_in Hc.out h3); have DA0 := (Hd.cell (p := ⟨A, 0, none⟩) lA).trans A0; have DA1 := (Hd.cell (p := ⟨A, 1, none⟩) lA).trans A1; have DA2 := (Hd.cell (p := ⟨A, 2, none⟩) lA).trans A2; have DA3 := (Hd.cell (p := ⟨A, 3, none⟩) lA).trans A3; have DB0 := (Hd.cell (p := ⟨B, 0, none⟩) lB).trans B0; have DB1 := (Hd.cell (p := ⟨B, 1, none⟩) lB).trans B1; have DB2 := (Hd.cell (p := ⟨B, 2, none⟩) lB).trans B2; have DB3 := (Hd.cell (p := ⟨B, 3, none⟩) lB).trans B3; have hws := Hd.size; clear Hc; have Hc := hide Hd; clear Hd h3)
      | (go_at_call 12; refine (kf.out _).mono ?_; rintro e w3 ⟨rfl, h3⟩; have Hd : Below W0.heap.size W0 w3 := (by first | exact step_on Hc.out h3 | exact step_in Hc.out h3); have DA0 := (Hd.cell (p := ⟨A, 0, none⟩) lA).trans A0; have DA1 := (Hd.cell (p := ⟨A, 1, none⟩) lA).trans A1; have DA2 := (Hd.cell (p := ⟨A, 2, none⟩) lA).trans A2; have DA3 := (Hd.cell (p := ⟨A, 3, none⟩) lA).trans A3; have DB0 := (Hd.cell (p := ⟨B, 0, none⟩) lB).trans B0; have DB1 := (Hd.cell (p := ⟨B, 1, none⟩) lB).trans B1; have DB2 := (Hd.cell (p := ⟨B, 2, none⟩) lB).trans B2; have DB3 := (Hd.cell (p := ⟨B, 3, none⟩) lB).trans B3; have hws := Hd.size; clear Hc; have Hc := hide Hd; clear Hd h3))
  have q7 := HU.out.below Hc.out
  have q8 := HV.out.below Hc.out
  have q9 := hide (HB.out.trans (Hc.out.mono HB.out.size))
  have nw := hide (new_any v ts S (by omega) _ q8)
  have Q7 := hide q7
  clear q7 q8 HU HV HB Hc kf kn
  go_wp2_with fail
  refine nw.out.mono ?_
  rintro e w4 ⟨R, vv, rfl, hR, hrd, htv, g4⟩
  have ls := hide (LS.start q9.out Q7.out hR hrd htv g4)
  clear hrd htv g4 hR
  obtain ⟨ua, ucap, rfl, hxx⟩ := Q7.out
  clear hxx
  go_wp2_with fail
  generalize (w4.alloc (Obj.cells #[Value.slice ua ts.length ucap, Value.string S, Value.int IntKind.i64 0] 54)) = W at *
  generalize w4.heap.size = Q at *
  have hlB : ts.length ≤ 1000000 := by omega
  have hsB : S.size ≤ 1000000 := by omega
  have tA := hide (fun t ht => (tb.out t ht).1)
  have tX : Hid (∀ t ∈ ts, t.2.1.size ≤ 1000000) := hide (fun t ht => by have := (tb.out t ht).2; omega)
  clear A0 A1 A2 A3 B0 B1 B2 B3 DA0 DA1 DA2 DA3 DB0 DB1 DB2 DB3 lA lB hws nw Q7 h2s q9
  refine wp_loop_rounds 1 ?_
  rw [rounds_succ]
  have pn := hide (fun w' => next_nil w')
  have pp := hide (fun w' => peek_nil 3 w')
  have pl := hide (fun w' => place_nil w')
  have pf := hide (fun w' => fail_nil 4 w')
  have etv : tokV (4, ⟨#[]⟩, 0) = .agg #[.int .i64 4, .string ⟨#[]⟩, .int .i64 0] := rfl
  rw [etv] at pn pp
  clear etv
  go_wp2_with fail
  refine (pn.out _).mono ?_
  rintro e w5 ⟨rfl, g5⟩
  go_wp2_with fail
  refine (pp.out _).mono ?_
  rintro e w6 ⟨rfl, g6⟩
  go_wp2_with fail
  refine (pl.out _).mono ?_
  rintro e w7 ⟨rfl, g7⟩
  go_wp2_with fail
  refine (pf.out _).mono ?_
  rintro e w8 ⟨rfl, g8⟩
  have F := hide (((((ls.out.keep g5).keep g6).keep g7).keep g8).below)
  clear g5 g6 g7 g8
  go_wp2_with fail
  go_ret
  exact ⟨rfl, F.out⟩

set_option maxRecDepth 100000 in
set_option maxHeartbeats 16000000 in
theorem reads_nil (s : ByteArray) (hsl : s.size ≤ 9223372036854775807) (w : World) :
    Calls Try.prog 6 #[.string s, .slice none 0 0] w fun e w' => e = .returned (.bool true) ∧ Below w.heap.size w w' := by
  have hx : (s.extract 0 (min (s.size : Int) 300).toNat).size ≤ 20000 := by simp; omega
  go_enter Try.func6, Try.ntmps6
  go_wp2_with fail
  generalize s.extract 0 (min (s.size : Int) 300).toNat = S at *
  obtain ⟨F, hF⟩ : ∃ F, F = flt S (lexG S (S.size + 1) 0 false) := ⟨_, rfl⟩
  have sp := hide (fun w => split_told S hx w F hF)
  have rp := hide (fun w => refSplit_told S hx w F hF)
  have tl := toks_len S
  have tb := hide (toks_bd S)
  generalize toksOf (lexG S (S.size + 1) 0 false) = ts at *
  obtain ⟨f0, f1, f2, f3⟩ := F
  clear hF
  refine (sp.out _).mono ?_
  rintro e w1 ⟨⟨v, rfl, hv⟩, hB1⟩
  go_wp2_with fail
  refine (rp.out _).mono ?_
  rintro e w2 ⟨⟨u, rfl, hu⟩, hB2⟩
  have k0 := blk_new w1 (.cells #[.int .i64 f0, .int .i64 f1, .int .i64 f2, .string f3] 27)
  have hsz : (w1.alloc (.cells #[.int .i64 f0, .int .i64 f1, .int .i64 f2, .string f3] 27)).heap.size = w1.heap.size + 1 := by simp
  have hv2 := (hv.below ((Below.refl _ w1).alloc (Nat.le_refl _) _)).below hB2
  have k2 := (hB2.block w1.heap.size (by rw [hsz]; omega)).trans k0
  have hBw : Below w.heap.size w w2 := (hB1.alloc hB1.size _).trans (hB2.mono (by rw [hsz]; have := hB1.size; omega))
  clear hB1 hB2 hv k0 hsz
  go_wp2_with fail
  have kf := hide (fun w => fault_any f0 f1 f2 f3 w)
  have kn := hide known_any
  have h2s : w1.heap.size < w2.heap.size := blk_lt k2
  obtain ⟨W0, hW0⟩ : ∃ W0, W0 = w2.alloc (Obj.cells #[Value.int IntKind.i64 f0, Value.int IntKind.i64 f1, Value.int IntKind.i64 f2, Value.string f3] 33) := ⟨_, rfl⟩
  have q1 : W0.heap[w1.heap.size]? = some (Obj.cells #[Value.int IntKind.i64 f0, Value.int IntKind.i64 f1, Value.int IntKind.i64 f2, Value.string f3] 27) := by
    rw [hW0]; exact (((Below.refl _ w2).alloc (Nat.le_refl _) _).block w1.heap.size h2s).trans k2
  have q2 : W0.heap[w2.heap.size]? = some (Obj.cells #[Value.int IntKind.i64 f0, Value.int IntKind.i64 f1, Value.int IntKind.i64 f2, Value.string f3] 33) := by
    rw [hW0]; exact blk_new w2 _
  have qv : IsToks W0 v ts := by rw [hW0]; exact hv2.below ((Below.refl _ w2).alloc (Nat.le_refl _) _)
  have qu : IsToks W0 u ts := by rw [hW0]; exact hu.below ((Below.refl _ w2).alloc (Nat.le_refl _) _)
  have qB : Below w.heap.size w W0 := by rw [hW0]; exact hBw.alloc hBw.size _
  rw [← hW0]
  generalize w1.heap.size = A at *
  generalize w2.heap.size = B at *
  clear hW0 k2 hv2 hu hBw sp rp
  have A0 := blk_cell q1 0
  have A1 := blk_cell q1 1
  have A2 := blk_cell q1 2
  have A3 := blk_cell q1 3
  have B0 := blk_cell q2 0
  have B1 := blk_cell q2 1
  have B2 := blk_cell q2 2
  have B3 := blk_cell q2 3
  have lA := blk_lt q1
  have lB := blk_lt q2
  have tl' : ts.length ≤ 100000 := by omega
  have HV := hide qv
  have HU := hide qu
  have HB := hide qB
  have Hc : Hid (Below W0.heap.size W0 W0) := hide (Below.refl _ W0)
  clear qv qu qB q1 q2
  go_wp2_with fail
  go_region_held3 (fun w' => w'.cell? ⟨A, 0, none⟩ = some (.int .i64 f0) ∧ w'.cell? ⟨A, 1, none⟩ = some (.int .i64 f1) ∧ w'.cell? ⟨A, 2, none⟩ = some (.int .i64 f2) ∧ w'.cell? ⟨A, 3, none⟩ = some (.string f3) ∧
      w'.cell? ⟨B, 0, none⟩ = some (.int .i64 f0) ∧ w'.cell? ⟨B, 1, none⟩ = some (.int .i64 f1) ∧ w'.cell? ⟨B, 2, none⟩ = some (.int .i64 f2) ∧ w'.cell? ⟨B, 3, none⟩ = some (.string f3))
    (go_keep)
    (first
      | (go_at_call 10; refine (kn.out _).mono ?_; rintro e w3 ⟨rfl, h3⟩; have Hd : Below W0.heap.size W0 w3 := (by first | exact step_on Hc.out h3 | exact step_in Hc.out h3); have DA0 := (Hd.cell (p := ⟨A, 0, none⟩) lA).trans A0; have DA1 := (Hd.cell (p := ⟨A, 1, none⟩) lA).trans A1; have DA2 := (Hd.cell (p := ⟨A, 2, none⟩) lA).trans A2; have DA3 := (Hd.cell (p := ⟨A, 3, none⟩) lA).trans A3; have DB0 := (Hd.cell (p := ⟨B, 0, none⟩) lB).trans B0; have DB1 := (Hd.cell (p := ⟨B, 1, none⟩) lB).trans B1; have DB2 := (Hd.cell (p := ⟨B, 2, none⟩) lB).trans B2; have DB3 := (Hd.cell (p := ⟨B, 3, none⟩) lB).trans B3; have hws := Hd.size; clear Hc; have Hc := hide Hd; clear Hd h3)
      | (go_at_call 11; refine (same_any v u ts tl' _ (HV.out.below (by first | exact Hc.out | exact Hc.out.drew)) (HU.out.below (by first | exact Hc.out | exact Hc.out.drew))).mono ?_; rintro e w3 ⟨rfl, h3⟩; have Hd : Below W0.heap.size W0 w3 := (by first | exact step_on Hc.out h3 | exact step_in Hc.out h3); have DA0 := (Hd.cell (p := ⟨A, 0, none⟩) lA).trans A0; have DA1 := (Hd.cell (p := ⟨A, 1, none⟩) lA).trans A1; have DA2 := (Hd.cell (p := ⟨A, 2, none⟩) lA).trans A2; have DA3 := (Hd.cell (p := ⟨A, 3, none⟩) lA).trans A3; have DB0 := (Hd.cell (p := ⟨B, 0, none⟩) lB).trans B0; have DB1 := (Hd.cell (p := ⟨B, 1, none⟩) lB).trans B1; have DB2 := (Hd.cell (p := ⟨B, 2, none⟩) lB).trans B2; have DB3 := (Hd.cell (p := ⟨B, 3, none⟩) lB).trans B3; have hws := Hd.size; clear Hc; have Hc := hide Hd; clear Hd h3)
      | (go_at_call 12; refine (kf.out _).mono ?_; rintro e w3 ⟨rfl, h3⟩; have Hd : Below W0.heap.size W0 w3 := (by first | exact step_on Hc.out h3 | exact step_in Hc.out h3); have DA0 := (Hd.cell (p := ⟨A, 0, none⟩) lA).trans A0; have DA1 := (Hd.cell (p := ⟨A, 1, none⟩) lA).trans A1; have DA2 := (Hd.cell (p := ⟨A, 2, none⟩) lA).trans A2; have DA3 := (Hd.cell (p := ⟨A, 3, none⟩) lA).trans A3; have DB0 := (Hd.cell (p := ⟨B, 0, none⟩) lB).trans B0; have DB1 := (Hd.cell (p := ⟨B, 1, none⟩) lB).trans B1; have DB2 := (Hd.cell (p := ⟨B, 2, none⟩) lB).trans B2; have DB3 := (Hd.cell (p := ⟨B, 3, none⟩) lB).trans B3; have hws := Hd.size; clear Hc; have Hc := hide Hd; clear Hd h3))
  have q7 := HU.out.below Hc.out
  have q8 := HV.out.below Hc.out
  have q9 := hide (HB.out.trans (Hc.out.mono HB.out.size))
  have nw := hide (new_any v ts S (by omega) _ q8)
  have Q7 := hide q7
  clear q7 q8 HU HV HB Hc kf kn
  go_wp2_with fail
  refine nw.out.mono ?_
  rintro e w4 ⟨R, vv, rfl, hR, hrd, htv, g4⟩
  have ls := hide (LS.start q9.out Q7.out hR hrd htv g4)
  clear hrd htv g4 hR
  obtain ⟨ua, ucap, rfl, hxx⟩ := Q7.out
  clear hxx
  go_wp2_with fail
  generalize (w4.alloc (Obj.cells #[Value.slice ua ts.length ucap, Value.string S, Value.int IntKind.i64 0] 54)) = W at *
  generalize w4.heap.size = Q at *
  have hlB : ts.length ≤ 1000000 := by omega
  have hsB : S.size ≤ 1000000 := by omega
  have tA := hide (fun t ht => (tb.out t ht).1)
  have tX : Hid (∀ t ∈ ts, t.2.1.size ≤ 1000000) := hide (fun t ht => by have := (tb.out t ht).2; omega)
  clear A0 A1 A2 A3 B0 B1 B2 B3 DA0 DA1 DA2 DA3 DB0 DB1 DB2 DB3 lA lB hws nw Q7 h2s q9
  refine wp_loop_rounds 1 ?_
  rw [rounds_succ]
  have pn := hide (fun w' => next_nil w')
  have pp := hide (fun w' => peek_nil 3 w')
  have pl := hide (fun w' => place_nil w')
  have pf := hide (fun w' => fail_nil 4 w')
  have etv : tokV (4, ⟨#[]⟩, 0) = .agg #[.int .i64 4, .string ⟨#[]⟩, .int .i64 0] := rfl
  rw [etv] at pn pp
  clear etv
  go_wp2_with fail
  refine (pn.out _).mono ?_
  rintro e w5 ⟨rfl, g5⟩
  go_wp2_with fail
  refine (pp.out _).mono ?_
  rintro e w6 ⟨rfl, g6⟩
  go_wp2_with fail
  refine (pl.out _).mono ?_
  rintro e w7 ⟨rfl, g7⟩
  go_wp2_with fail
  refine (pf.out _).mono ?_
  rintro e w8 ⟨rfl, g8⟩
  have F := hide (((((ls.out.keep g5).keep g6).keep g7).keep g8).below)
  clear g5 g6 g7 g8
  go_wp2_with fail
  go_ret
  exact ⟨rfl, F.out⟩
end Go.Proofs.Ytiommimbnegplaa
