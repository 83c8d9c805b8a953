/- The walk of LexSplits. -/
import Derived.Test.YtiommimbnegplaaSame
import Derived.Test.YtiommimbnegplaaRsplit
namespace Go.Proofs.Ytiommimbnegplaa
open Go.RowKit
set_option linter.unusedVariables false

/-- a slice value that reads as these tokens -/
def IsToks (w : World) (v : Value) (ts : List Tok) : Prop :=
  ∃ a cap, v = .slice a ts.length cap ∧ (ts = [] ∨ ∃ g, a = some ⟨g, 0, none⟩ ∧ g < w.heap.size ∧ TokRow w g ts)

theorem isToks_of (w : World) (base : Nat) (e : TypeId) (v : Value) (ts : List Tok) (h : w.ownsRow base e 3 v ts.length (cellsOf ts)) : IsToks w v ts := by
  obtain ⟨h1, h2⟩ := id h
  rcases h2 with ⟨rfl, h3⟩ | ⟨g, cap, cur, rfl, h3⟩
  · exact ⟨none, 0, by rw [h3], Or.inl (List.eq_nil_of_length_eq_zero h3)⟩
  · exact ⟨_, cap, rfl, Or.inr ⟨g, rfl, (h.lt g rfl).2, tokRow_of w base e g cap ts h⟩⟩

theorem isToks_nil (w : World) : IsToks w (.slice none 0 0) [] := ⟨none, 0, rfl, Or.inl rfl⟩

theorem IsToks.below {w w' : World} {v : Value} {ts : List Tok} (h : IsToks w v ts) (hb : Below w.heap.size w w') : IsToks w' v ts := by
  obtain ⟨a, cap, rfl, h1⟩ := h
  refine ⟨a, cap, rfl, ?_⟩
  rcases h1 with h1 | ⟨g, rfl, hg, hr⟩
  · exact Or.inl h1
  · refine Or.inr ⟨g, rfl, by have := hb.size; omega, fun i hi => ?_⟩
    obtain ⟨x, y, z⟩ := hr i hi
    exact ⟨(hb.cell (p := ⟨g, _, none⟩) hg).trans x, (hb.cell (p := ⟨g, _, none⟩) hg).trans y, (hb.cell (p := ⟨g, _, none⟩) hg).trans z⟩

theorem same_zero (a b : Option Addr) (ca cb : Nat) (w : World) :
    Calls Try.prog 11 #[.slice a 0 ca, .slice b 0 cb] w fun e w' => e = .returned (.bool true) ∧ Below w.heap.size w w' := by
  go_enter Try.func11, Try.ntmps11
  go_wp2_with fail
  refine wp_loop_rounds 1 ?_
  rw [rounds_succ]
  go_wp2_with fail
  go_ret
  exact ⟨rfl, Below.refl _ _⟩

theorem same_any (va vb : Value) (ts : List Tok) (hn : ts.length ≤ 100000) (w : World) (ha : IsToks w va ts) (hb : IsToks w vb ts) :
    Calls Try.prog 11 #[va, vb] w fun e w' => e = .returned (.bool true) ∧ Below w.heap.size w w' := by
  obtain ⟨a, ca, rfl, h1⟩ := ha
  obtain ⟨b, cb, rfl, h2⟩ := hb
  rcases h1 with rfl | ⟨ga, rfl, hga, hra⟩
  · exact same_zero a b ca cb w
  · rcases h2 with rfl | ⟨gb, rfl, hgb, hrb⟩
    · exact same_zero _ b ca cb w
    · exact same_row ga gb ca cb ts hn w hra hrb hga hgb

/-- what a text comes to, as the two Splits tell it -/
def flt (s : ByteArray) (T : List Tok × Option Flt) : Int × Int × Int × ByteArray :=
  match T.2 with
  | none => (0, 0, 0, ⟨#[]⟩)
  | some x => (x.1, (markOf (s.data.toList.take x.2.1)).1, (markOf (s.data.toList.take x.2.1)).2, x.2.2)
def toksOf (T : List Tok × Option Flt) : List Tok := match T.2 with | none => T.1 | some _ => []

theorem split_told (s : ByteArray) (hs : s.size ≤ 20000) (w : World) (F : Int × Int × Int × ByteArray) (hF : F = flt s (lexG s (s.size + 1) 0 false)) :
    Calls Try.prog 8 #[.string s] w fun e w' => (∃ v, e = .returned (.tuple #[v, .agg #[.int .i64 F.1, .int .i64 F.2.1, .int .i64 F.2.2.1, .string F.2.2.2]]) ∧ IsToks w' v (toksOf (lexG s (s.size + 1) 0 false))) ∧ Below w.heap.size w w' := by
  subst hF
  refine (split_any s hs w).mono ?_
  rintro e w' ⟨⟨v, he, ho⟩, hB⟩
  refine ⟨?_, hB⟩
  unfold outOf at he ho
  unfold flt toksOf
  cases hT : (lexG s (s.size + 1) 0 false).2 with
  | none => rw [hT] at he ho; exact ⟨v, he, isToks_of _ _ _ _ _ ho⟩
  | some x => rw [hT] at he; exact ⟨_, he, isToks_nil _⟩

theorem refSplit_told (s : ByteArray) (hs : s.size ≤ 20000) (w : World) (F : Int × Int × Int × ByteArray) (hF : F = flt s (lexG s (s.size + 1) 0 false)) :
    Calls Try.prog 9 #[.string s] w fun e w' => (∃ v, e = .returned (.tuple #[v, .agg #[.int .i64 F.1, .int .i64 F.2.1, .int .i64 F.2.2.1, .string F.2.2.2]]) ∧ IsToks w' v (toksOf (lexG s (s.size + 1) 0 false))) ∧ Below w.heap.size w w' := by
  subst hF
  refine (refSplit_any s hs w).mono ?_
  rintro e w' ⟨⟨v, he, ho⟩, hB⟩
  refine ⟨?_, hB⟩
  unfold outR at he ho
  unfold flt toksOf
  cases hT : (lexG s (s.size + 1) 0 false).2 with
  | none => rw [hT] at he ho; exact ⟨v, he, isToks_of _ _ _ _ _ ho⟩
  | some x => rw [hT] at he; exact ⟨_, he, isToks_nil _⟩

theorem lexG_len (s : ByteArray) : ∀ f k b, k ≤ s.size → (lexG s f k b).1.length ≤ s.size - k := by
  intro f
  induction f with
  | zero => intro k b h; simp [lexG]
  | succ f ih =>
    intro k b h
    simp only [lexG]
    have hsl := skipLen_le (s.data.toList.drop k) b
    simp only [List.length_drop] at hsl
    rw [show s.data.toList.length = s.size by simp] at hsl
    have hfl := firstOf_le (s.data.toList.drop (k + skipLen (s.data.toList.drop k) b))
    simp only [List.length_drop] at hfl
    rw [show s.data.toList.length = s.size by simp] at hfl
    split
    · simp
    · split
      · simp
      · split
        · simp
        · have := ih (k + skipLen (s.data.toList.drop k) b + (firstOf (s.data.toList.drop (k + skipLen (s.data.toList.drop k) b))).2) false (by omega)
          simp only [List.length_cons]
          omega

theorem toks_len (s : ByteArray) : (toksOf (lexG s (s.size + 1) 0 false)).length ≤ s.size := by
  have := lexG_len s (s.size + 1) 0 false (Nat.zero_le _)
  unfold toksOf
  split
  · omega
  · simp

theorem step_in {w w1 w2 : World} (h : Below w.heap.size w w1) (h2 : Below w1.heap.size w1 w2) : Below w.heap.size w w2 := h.trans (h2.mono h.size)
theorem step_on {w w1 w2 : World} (h : Below w.heap.size w w1) (h2 : Below w1.heap.size w1.drew w2) : Below w.heap.size w w2 := h.drew.trans (h2.mono (by show w.heap.size ≤ w1.heap.size; exact h.size))

set_option maxRecDepth 100000 in
set_option maxHeartbeats 2000000 in
theorem splits_walk (s : ByteArray) (hl : s.size ≤ 9223372036854775807) (w : World) :
    Calls Try.prog 3 #[.string s] w fun e w' => e = .returned (.bool true) ∧ Below w.heap.size w w' := by
  have hx : (s.extract 0 (min (s.size : Int) 1500).toNat).size ≤ 20000 := by simp; omega
  go_enter Try.func3, Try.ntmps3
  go_wp2_with fail
  generalize s.extract 0 (min (s.size : Int) 1500).toNat = S at *
  obtain ⟨F, hF⟩ : ∃ F, F = flt S (lexG S (S.size + 1) 0 false) := ⟨_, rfl⟩
  have sp := hide (fun w => split_told S hx w F hF)
  have rp := hide (fun w => refSplit_told S hx w F hF)
  have tl := toks_len S
  generalize toksOf (lexG S (S.size + 1) 0 false) = ts at *
  obtain ⟨f0, f1, f2, f3⟩ := F
  clear hF
  refine (sp.out _).mono ?_
  rintro e w1 ⟨⟨v, rfl, hv⟩, hB1⟩
  go_wp2_with fail
  refine (rp.out _).mono ?_
  rintro e w2 ⟨⟨u, rfl, hu⟩, hB2⟩
  have k0 := blk_new w1 (.cells #[.int .i64 f0, .int .i64 f1, .int .i64 f2, .string f3] 27)
  have hsz : (w1.alloc (.cells #[.int .i64 f0, .int .i64 f1, .int .i64 f2, .string f3] 27)).heap.size = w1.heap.size + 1 := by simp
  have hv2 := (hv.below ((Below.refl _ w1).alloc (Nat.le_refl _) _)).below hB2
  have k2 := (hB2.block w1.heap.size (by rw [hsz]; omega)).trans k0
  have hBw : Below w.heap.size w w2 := (hB1.alloc hB1.size _).trans (hB2.mono (by rw [hsz]; have := hB1.size; omega))
  clear hB1 hB2 hv k0 hsz
  go_wp2_with fail
  have kf := hide (fun w => fault_any f0 f1 f2 f3 w)
  have kn := hide known_any
  have h2s : w1.heap.size < w2.heap.size := blk_lt k2
  obtain ⟨W0, hW0⟩ : ∃ W0, W0 = w2.alloc (Obj.cells #[Value.int IntKind.i64 f0, Value.int IntKind.i64 f1, Value.int IntKind.i64 f2, Value.string f3] 33) := ⟨_, rfl⟩
  have q1 : W0.heap[w1.heap.size]? = some (Obj.cells #[Value.int IntKind.i64 f0, Value.int IntKind.i64 f1, Value.int IntKind.i64 f2, Value.string f3] 27) := by
    rw [hW0]; exact (((Below.refl _ w2).alloc (Nat.le_refl _) _).block w1.heap.size h2s).trans k2
  have q2 : W0.heap[w2.heap.size]? = some (Obj.cells #[Value.int IntKind.i64 f0, Value.int IntKind.i64 f1, Value.int IntKind.i64 f2, Value.string f3] 33) := by
    rw [hW0]; exact blk_new w2 _
  have qv : IsToks W0 v ts := by rw [hW0]; exact hv2.below ((Below.refl _ w2).alloc (Nat.le_refl _) _)
  have qu : IsToks W0 u ts := by rw [hW0]; exact hu.below ((Below.refl _ w2).alloc (Nat.le_refl _) _)
  have qB : Below w.heap.size w W0 := by rw [hW0]; exact hBw.alloc hBw.size _
  rw [← hW0]
  generalize w1.heap.size = A at *
  generalize w2.heap.size = B at *
  clear hW0 k2 hv2 hu hBw sp rp
  have A0 := blk_cell q1 0
  have A1 := blk_cell q1 1
  have A2 := blk_cell q1 2
  have A3 := blk_cell q1 3
  have B0 := blk_cell q2 0
  have B1 := blk_cell q2 1
  have B2 := blk_cell q2 2
  have B3 := blk_cell q2 3
  have lA := blk_lt q1
  have lB := blk_lt q2
  have tl' : ts.length ≤ 100000 := by omega
  have HV := hide qv
  have HU := hide qu
  have HB := hide qB
  have Hc : Hid (Below W0.heap.size W0 W0) := hide (Below.refl _ W0)
  clear qv qu qB q1 q2
  go_wp2_with fail

  go_region_held3 (fun w' => w'.cell? ⟨A, 0, none⟩ = some (.int .i64 f0) ∧ w'.cell? ⟨A, 1, none⟩ = some (.int .i64 f1) ∧ w'.cell? ⟨A, 2, none⟩ = some (.int .i64 f2) ∧ w'.cell? ⟨A, 3, none⟩ = some (.string f3) ∧
      w'.cell? ⟨B, 0, none⟩ = some (.int .i64 f0) ∧ w'.cell? ⟨B, 1, none⟩ = some (.int .i64 f1) ∧ w'.cell? ⟨B, 2, none⟩ = some (.int .i64 f2) ∧ w'.cell? ⟨B, 3, none⟩ = some (.string f3))
    (go_keep)
    (first
      | (go_at_call 10; refine (kn.out _).mono ?_; rintro e w3 ⟨rfl, h3⟩; have Hd : Below W0.heap.size W0 w3 := (by first | exact step_on Hc.out h3 | exact step_in Hc.out h3); have DA0 := (Hd.cell (p := ⟨A, 0, none⟩) lA).trans A0; have DA1 := (Hd.cell (p := ⟨A, 1, none⟩) lA).trans A1; have DA2 := (Hd.cell (p := ⟨A, 2, none⟩) lA).trans A2; have DA3 := (Hd.cell (p := ⟨A, 3, none⟩) lA).trans A3; have DB0 := (Hd.cell (p := ⟨B, 0, none⟩) lB).trans B0; have DB1 := (Hd.cell (p := ⟨B, 1, none⟩) lB).trans B1; have DB2 := (Hd.cell (p := ⟨B, 2, none⟩) lB).trans B2; have DB3 := (Hd.cell (p := ⟨B, 3, none⟩) lB).trans B3; have hws := Hd.size; clear Hc; have Hc := hide Hd; clear Hd h3)
      | (go_at_call 11; refine (same_any v u ts tl' _ (HV.out.below (by first | exact Hc.out | exact Hc.out.drew)) (HU.out.below (by first | exact Hc.out | exact Hc.out.drew))).mono ?_; rintro e w3 ⟨rfl, h3⟩; have Hd : Below W0.heap.size W0 w3 := (by first | exact step_on Hc.out h3 | exact step_in Hc.out h3); have DA0 := (Hd.cell (p := ⟨A, 0, none⟩) lA).trans A0; have DA1 := (Hd.cell (p := ⟨A, 1, none⟩) lA).trans A1; have DA2 := (Hd.cell (p := ⟨A, 2, none⟩) lA).trans A2; have DA3 := (Hd.cell (p := ⟨A, 3, none⟩) lA).trans A3; have DB0 := (Hd.cell (p := ⟨B, 0, none⟩) lB).trans B0; have DB1 := (Hd.cell (p := ⟨B, 1, none⟩) lB).trans B1; have DB2 := (Hd.cell (p := ⟨B, 2, none⟩) lB).trans B2; have DB3 := (Hd.cell (p := ⟨B, 3, none⟩) lB).trans B3; have hws := Hd.size; clear Hc; have Hc := hide Hd; clear Hd h3)
      | (go_at_call 12; refine (kf.out _).mono ?_; rintro e w3 ⟨rfl, h3⟩; have Hd : Below W0.heap.size W0 w3 := (by first | exact step_on Hc.out h3 | exact step_in Hc.out h3); have DA0 := (Hd.cell (p := ⟨A, 0, none⟩) lA).trans A0; have DA1 := (Hd.cell (p := ⟨A, 1, none⟩) lA).trans A1; have DA2 := (Hd.cell (p := ⟨A, 2, none⟩) lA).trans A2; have DA3 := (Hd.cell (p := ⟨A, 3, none⟩) lA).trans A3; have DB0 := (Hd.cell (p := ⟨B, 0, none⟩) lB).trans B0; have DB1 := (Hd.cell (p := ⟨B, 1, none⟩) lB).trans B1; have DB2 := (Hd.cell (p := ⟨B, 2, none⟩) lB).trans B2; have DB3 := (Hd.cell (p := ⟨B, 3, none⟩) lB).trans B3; have hws := Hd.size; clear Hc; have Hc := hide Hd; clear Hd h3))
  go_wp2_with fail
  go_ret
  exact ⟨rfl, HB.out.trans (Hc.out.mono HB.out.size)⟩
end Go.Proofs.Ytiommimbnegplaa
