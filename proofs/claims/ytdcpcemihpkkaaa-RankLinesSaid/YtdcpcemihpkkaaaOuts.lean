/- New's closures, and slices.ContainsFunc with them. -/
import Derived.Test.YtdcpcemihpkkaaaRank
namespace Go.Proofs.Ytdcpcemihpkkaaa
open Go.RowKit
set_option linter.unusedVariables false
set_option linter.unusedSimpArgs false

/-- is it no constant? -/
def outB (n c : Int) : Bool := decide (c < 0) || decide (n ≤ c)

set_option maxRecDepth 100000 in
theorem out_any (n c : Int) (pn : Addr) (w : World) (h : w.cell? pn = some (.int .i64 n)) :
    Calls Try.prog 31 #[.int .i64 c, .pointer (some pn)] w fun e w' => e = .returned (.bool (outB n c)) ∧ w = w' := by
  by_cases h1 : c < 0
  · have E : outB n c = true := by unfold outB; rw [show decide (c < 0) = true by simp; omega]; rfl
    rw [E]
    go_enter Try.func31, Try.ntmps31
    go_wp2_with fail
    go_ret
    exact ⟨rfl, rfl⟩
  · have q1 : decide (c < 0) = false := by simp; omega
    have E : outB n c = decide (n ≤ c) := by unfold outB; rw [q1]; rfl
    rw [E]
    go_enter Try.func31, Try.ntmps31
    go_wp2_with fail
    go_ret
    exact ⟨rfl, rfl⟩

def outP (n : Int) (p : Int × Int) : Bool := outB n p.1 || outB n p.2
def outS (n : Int) (s : Int × Int) : Bool := outB n s.1 || (decide (s.2 < 0) || decide (s.2 > 1))

set_option maxRecDepth 100000 in
set_option maxHeartbeats 1000000 in
theorem pair_any (n : Int) (x y : Int) (pn : Addr) (p8 : Addr) (w : World) (h : w.cell? pn = some (.int .i64 n)) (h8 : w.cell? p8 = some (.func (.func 31) #[] #[.pointer (some pn)])) :
    Calls Try.prog 33 #[.agg #[.int .i64 x, .int .i64 y], .pointer (some p8)] w fun e w' => e = .returned (.bool (outP n (x, y))) ∧ Chg (fun _ => False) w w' := by
  have g0 := al w (.cells #[.int .i64 x, .int .i64 y] 43)
  obtain ⟨pb, po, ps⟩ := pn
  obtain ⟨qb, qo, qs⟩ := p8
  obtain rfl := World.cell?_spot h
  obtain rfl := World.cell?_spot h8
  have k1 := g0.cell (fun h => h) h
  have k8 := g0.cell (fun h => h) h8
  have c1 := hide (out_any n x _ _ k1)
  have c2 := hide (out_any n y _ _ k1)
  have b0 := blk_new w (.cells #[.int .i64 x, .int .i64 y] 43)
  have G := hide g0
  unfold outP
  dsimp only
  cases e1 : outB n x
  · rw [e1] at c1
    go_enter Try.func33, Try.ntmps33
    go_wp2_with fail
    refine c1.out.mono ?_
    rintro e w' ⟨rfl, rfl⟩
    go_wp2_with fail
    refine c2.out.mono ?_
    rintro e w' ⟨rfl, rfl⟩
    go_wp2_with fail
    go_ret
    exact ⟨by simp, G.out⟩
  · rw [e1] at c1
    go_enter Try.func33, Try.ntmps33
    go_wp2_with fail
    refine c1.out.mono ?_
    rintro e w' ⟨rfl, rfl⟩
    go_wp2_with fail
    go_ret
    exact ⟨by simp, G.out⟩

set_option maxRecDepth 100000 in
set_option maxHeartbeats 1000000 in
theorem stat_any (n : Int) (x y : Int) (pn : Addr) (p8 : Addr) (w : World) (h : w.cell? pn = some (.int .i64 n)) (h8 : w.cell? p8 = some (.func (.func 31) #[] #[.pointer (some pn)])) :
    Calls Try.prog 35 #[.agg #[.int .i64 x, .int .i64 y], .pointer (some p8)] w fun e w' => e = .returned (.bool (outS n (x, y))) ∧ Chg (fun _ => False) w w' := by
  have g0 := al w (.cells #[.int .i64 x, .int .i64 y] 52)
  obtain ⟨pb, po, ps⟩ := pn
  obtain ⟨qb, qo, qs⟩ := p8
  obtain rfl := World.cell?_spot h
  obtain rfl := World.cell?_spot h8
  have k1 := g0.cell (fun h => h) h
  have k8 := g0.cell (fun h => h) h8
  have c1 := hide (out_any n x _ _ k1)
  have b0 := blk_new w (.cells #[.int .i64 x, .int .i64 y] 52)
  have G := hide g0
  unfold outS
  dsimp only
  cases e1 : outB n x
  · rw [e1] at c1
    by_cases q : y < 0
    · have q1 : decide (y < 0) = true := by simp; omega
      rw [q1]
      go_enter Try.func35, Try.ntmps35
      go_wp2_with fail
      refine c1.out.mono ?_
      rintro e w' ⟨rfl, rfl⟩
      go_wp2_with fail
      go_ret
      exact ⟨by simp, G.out⟩
    · have q1 : decide (y < 0) = false := by simp; omega
      rw [q1]
      go_enter Try.func35, Try.ntmps35
      go_wp2_with fail
      refine c1.out.mono ?_
      rintro e w' ⟨rfl, rfl⟩
      go_wp2_with fail
      go_ret
      exact ⟨by simp, G.out⟩
  · rw [e1] at c1
    go_enter Try.func35, Try.ntmps35
    go_wp2_with fail
    refine c1.out.mono ?_
    rintro e w' ⟨rfl, rfl⟩
    go_wp2_with fail
    go_ret
    exact ⟨by simp, G.out⟩

/-- A row of twos, as it came in. -/
def IRow (w : World) (B : Nat) (v : Value) (l : List (Int × Int)) : Prop :=
  ∃ a cap, v = .slice a l.length cap ∧ (l = [] ∨ ∃ g off, a = some ⟨g, off, none⟩ ∧ g < B ∧ ∀ i (h : i < l.length), w.cell? ⟨g, off + i * 2, none⟩ = some (.int .i64 (l[i]'h).1) ∧ w.cell? ⟨g, off + i * 2 + 1, none⟩ = some (.int .i64 (l[i]'h).2))

theorem IRow.chg {w w' : World} {B : Nat} {v : Value} {l : List (Int × Int)} (h : IRow w B v l) {S : Nat → Prop} (g : Chg S w w') (hn : ∀ x, x < B → ¬ S x) : IRow w' B v l := by
  obtain ⟨a, cap, e, h1⟩ := h
  refine ⟨a, cap, e, ?_⟩
  rcases h1 with h1 | ⟨g1, off, e1, h2, h3⟩
  · exact Or.inl h1
  · exact Or.inr ⟨g1, off, e1, h2, fun i hi => ⟨g.cell (hn g1 h2) (h3 i hi).1, g.cell (hn g1 h2) (h3 i hi).2⟩⟩
theorem IRow.up {w : World} {B B' : Nat} {v : Value} {l : List (Int × Int)} (h : IRow w B v l) (hb : B ≤ B') : IRow w B' v l := by
  obtain ⟨a, cap, e, h1⟩ := h
  refine ⟨a, cap, e, ?_⟩
  rcases h1 with h1 | ⟨g1, off, e1, h2, h3⟩
  · exact Or.inl h1
  · exact Or.inr ⟨g1, off, e1, by omega, h3⟩

theorem any_succ {α : Type} (l : List α) (f : α → Bool) (k : Nat) (h : k < l.length) (h0 : (l.take k).any f = false) : (l.take (k + 1)).any f = f l[k] := by
  rw [List.take_succ_eq_append_getElem h, List.any_append, h0]
  simp
theorem any_take {α : Type} (l : List α) (f : α → Bool) (k : Nat) (h : (l.take k).any f = true) : l.any f = true := by
  rw [List.any_eq_true] at *
  obtain ⟨x, hx, hf⟩ := h
  exact ⟨x, List.mem_of_mem_take hx, hf⟩

set_option maxRecDepth 100000 in
set_option maxHeartbeats 2000000 in
theorem index_pairs (n : Int) (v : Value) (l : List (Int × Int)) (hl : l.length ≤ 1000000) (B : Nat) (pn p8 : Nat) (w : World) (h : w.cell? ⟨pn, 0, none⟩ = some (.int .i64 n)) (h8 : w.cell? ⟨p8, 0, none⟩ = some (.func (.func 31) #[] #[.pointer (some ⟨pn, 0, none⟩)])) (hv : IRow w B v l) :
    Calls Try.prog 45 #[v, .func (.func 33) #[] #[.pointer (some ⟨p8, 0, none⟩)]] w fun e w' => (∃ r : Int, e = .returned (.int .i64 r) ∧ decide (0 ≤ r) = l.any (outP n)) ∧ Chg (fun _ => False) w w' := by
  obtain ⟨a, cap, rfl, hrow⟩ := hv
  have HV := hide hrow
  have H1 := hide h
  have H8 := hide h8
  clear hrow h h8
  go_enter Try.func45, Try.ntmps45
  go_wp2_with fail
  go_loopw [8] (fun iv wr => ∃ k : Nat, k ≤ l.length ∧ iv = .int .i64 k ∧ Hid ((l.take k).any (outP n) = false) ∧ Hid (Chg (fun _ => False) w wr)) (fun iv _ => l.length - (intOf iv).toNat)
  case atStart => exact ⟨0, Nat.zero_le _, rfl, by unfold Hid; simp, Chg.refl _ _⟩
  case round =>
    obtain ⟨k, hk, rfl, hA, hC⟩ := hrel
    by_cases hlt : k < l.length
    · rcases HV.out with h0 | ⟨g, off, rfl, hg, hc⟩
      · rw [h0] at hlt; exact absurd hlt (Nat.not_lt_zero _)
      have hs := any_succ l (outP n) k hlt hA.out
      obtain ⟨d0, d1⟩ := hc k hlt
      have e0 := hC.out.cell (fun h => h) d0
      have e1 := hC.out.cell (fun h => h) d1
      generalize l[k] = x at *
      obtain ⟨x0, x1⟩ := x
      dsimp only at e0 e1
      have pa := hide (pair_any n x0 x1 _ _ wr (hC.out.cell (fun h => h) H1.out) (hC.out.cell (fun h => h) H8.out))
      have i0 : (0 : Int) ≤ (k : Int) := by omega
      have i1 : (k : Int) < (l.length : Int) := by omega
      have HS := hide hs
      clear d0 d1 hc hs
      generalize outP n (x0, x1) = bt at *
      cases bt
      · go_wp2_with fail
        refine pa.out.mono ?_
        rintro e w1 ⟨rfl, g1⟩
        have C1 := hide (hC.out.trans g1)
        clear g1 pa
        go_wp2_with fail
        go_roundw
        case rel => exact ⟨k + 1, by omega, by go_num, HS, C1⟩
        case measure => simp [intOf]; omega
      · have HT := hide (any_take _ _ _ HS.out)
        go_wp2_with fail
        refine pa.out.mono ?_
        rintro e w1 ⟨rfl, g1⟩
        have C1 := hide (hC.out.trans g1)
        clear g1 pa
        go_wp2_with fail
        go_ret
        exact ⟨⟨_, rfl, by rw [HT.out]; simp⟩, C1.out⟩
    · have hkl : k = l.length := by omega
      subst hkl
      have hall : Hid (l.any (outP n) = false) := by have := hA.out; rw [List.take_length] at this; exact this
      clear hA
      go_wp2_with fail
      go_ret
      exact ⟨⟨_, rfl, by rw [hall.out]; simp⟩, hC.out⟩

set_option maxRecDepth 100000 in
set_option maxHeartbeats 2000000 in
theorem index_stats (n : Int) (v : Value) (l : List (Int × Int)) (hl : l.length ≤ 1000000) (B : Nat) (pn p8 : Nat) (w : World) (h : w.cell? ⟨pn, 0, none⟩ = some (.int .i64 n)) (h8 : w.cell? ⟨p8, 0, none⟩ = some (.func (.func 31) #[] #[.pointer (some ⟨pn, 0, none⟩)])) (hv : IRow w B v l) :
    Calls Try.prog 46 #[v, .func (.func 35) #[] #[.pointer (some ⟨p8, 0, none⟩)]] w fun e w' => (∃ r : Int, e = .returned (.int .i64 r) ∧ decide (0 ≤ r) = l.any (outS n)) ∧ Chg (fun _ => False) w w' := by
  obtain ⟨a, cap, rfl, hrow⟩ := hv
  have HV := hide hrow
  have H1 := hide h
  have H8 := hide h8
  clear hrow h h8
  go_enter Try.func46, Try.ntmps46
  go_wp2_with fail
  go_loopw [8] (fun iv wr => ∃ k : Nat, k ≤ l.length ∧ iv = .int .i64 k ∧ Hid ((l.take k).any (outS n) = false) ∧ Hid (Chg (fun _ => False) w wr)) (fun iv _ => l.length - (intOf iv).toNat)
  case atStart => exact ⟨0, Nat.zero_le _, rfl, by unfold Hid; simp, Chg.refl _ _⟩
  case round =>
    obtain ⟨k, hk, rfl, hA, hC⟩ := hrel
    by_cases hlt : k < l.length
    · rcases HV.out with h0 | ⟨g, off, rfl, hg, hc⟩
      · rw [h0] at hlt; exact absurd hlt (Nat.not_lt_zero _)
      have hs := any_succ l (outS n) k hlt hA.out
      obtain ⟨d0, d1⟩ := hc k hlt
      have e0 := hC.out.cell (fun h => h) d0
      have e1 := hC.out.cell (fun h => h) d1
      generalize l[k] = x at *
      obtain ⟨x0, x1⟩ := x
      dsimp only at e0 e1
      have pa := hide (stat_any n x0 x1 _ _ wr (hC.out.cell (fun h => h) H1.out) (hC.out.cell (fun h => h) H8.out))
      have i0 : (0 : Int) ≤ (k : Int) := by omega
      have i1 : (k : Int) < (l.length : Int) := by omega
      have HS := hide hs
      clear d0 d1 hc hs
      generalize outS n (x0, x1) = bt at *
      cases bt
      · go_wp2_with fail
        refine pa.out.mono ?_
        rintro e w1 ⟨rfl, g1⟩
        have C1 := hide (hC.out.trans g1)
        clear g1 pa
        go_wp2_with fail
        go_roundw
        case rel => exact ⟨k + 1, by omega, by go_num, HS, C1⟩
        case measure => simp [intOf]; omega
      · have HT := hide (any_take _ _ _ HS.out)
        go_wp2_with fail
        refine pa.out.mono ?_
        rintro e w1 ⟨rfl, g1⟩
        have C1 := hide (hC.out.trans g1)
        clear g1 pa
        go_wp2_with fail
        go_ret
        exact ⟨⟨_, rfl, by rw [HT.out]; simp⟩, C1.out⟩
    · have hkl : k = l.length := by omega
      subst hkl
      have hall : Hid (l.any (outS n) = false) := by have := hA.out; rw [List.take_length] at this; exact this
      clear hA
      go_wp2_with fail
      go_ret
      exact ⟨⟨_, rfl, by rw [hall.out]; simp⟩, hC.out⟩

theorem has_pairs (n : Int) (v : Value) (l : List (Int × Int)) (hl : l.length ≤ 1000000) (B : Nat) (pn p8 : Nat) (w : World) (h : w.cell? ⟨pn, 0, none⟩ = some (.int .i64 n)) (h8 : w.cell? ⟨p8, 0, none⟩ = some (.func (.func 31) #[] #[.pointer (some ⟨pn, 0, none⟩)])) (hv : IRow w B v l) :
    Calls Try.prog 32 #[v, .func (.func 33) #[] #[.pointer (some ⟨p8, 0, none⟩)]] w fun e w' => e = .returned (.bool (l.any (outP n))) ∧ Chg (fun _ => False) w w' := by
  have ix := hide (index_pairs n v l hl B pn p8 w h h8 hv)
  obtain ⟨a, cap, rfl, hrow⟩ := hv
  clear hrow h h8
  go_enter Try.func32, Try.ntmps32
  go_wp2_with fail
  refine ix.out.mono ?_
  rintro e w1 ⟨⟨r, rfl, hr⟩, g1⟩
  have HR := hide hr
  clear hr
  go_wp2_with fail
  go_ret
  exact ⟨by rw [← HR.out]; rfl, g1⟩

theorem has_stats (n : Int) (v : Value) (l : List (Int × Int)) (hl : l.length ≤ 1000000) (B : Nat) (pn p8 : Nat) (w : World) (h : w.cell? ⟨pn, 0, none⟩ = some (.int .i64 n)) (h8 : w.cell? ⟨p8, 0, none⟩ = some (.func (.func 31) #[] #[.pointer (some ⟨pn, 0, none⟩)])) (hv : IRow w B v l) :
    Calls Try.prog 34 #[v, .func (.func 35) #[] #[.pointer (some ⟨p8, 0, none⟩)]] w fun e w' => e = .returned (.bool (l.any (outS n))) ∧ Chg (fun _ => False) w w' := by
  have ix := hide (index_stats n v l hl B pn p8 w h h8 hv)
  obtain ⟨a, cap, rfl, hrow⟩ := hv
  clear hrow h h8
  go_enter Try.func34, Try.ntmps34
  go_wp2_with fail
  refine ix.out.mono ?_
  rintro e w1 ⟨⟨r, rfl, hr⟩, g1⟩
  have HR := hide hr
  clear hr
  go_wp2_with fail
  go_ret
  exact ⟨by rw [← HR.out]; rfl, g1⟩

end Go.Proofs.Ytdcpcemihpkkaaa
