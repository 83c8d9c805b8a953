/- A rank's readers: rows, Len, Above. -/
import Derived.Test.YtdcpcemihpkkaaaClosure
namespace Go.Proofs.Ytdcpcemihpkkaaa
open Go.RowKit
set_option linter.unusedVariables false
set_option linter.unusedSimpArgs false

/-- A rank whose rows are made. -/
def Done (w : World) (b n : Nat) (ps : Pairs) (mv sv : Value) (L : Nat) (gs : Nat → Nat) (W : Nat → Nat → Nat) : Prop :=
  ∃ pv k, PRow w b pv ps ∧ Rk w b n pv mv 1 0 (.slice (some ⟨L, 0, none⟩) n n) k sv ∧ Grid w (b + 1) L n ((n + 63) / 64) n gs W ∧ Bits n W (Reach ps)

/-- A rank, its rows made or not. -/
def Rs (w : World) (b n : Nat) (ps : Pairs) (mv sv : Value) : Prop :=
  (∃ pv k, PRow w b pv ps ∧ Rk w b n pv mv 0 0 (.slice none 0 0) k sv) ∨ ∃ L gs W, Done w b n ps mv sv L gs W

theorem PRow.chg {w w' : World} {B : Nat} {v : Value} {ps : Pairs} (h : PRow w B v ps) {S : Nat → Prop} (g : Chg S w w') (hn : ∀ x, x < B → ¬ S x) : PRow w' B v ps := by
  obtain ⟨a, cap, e, h1⟩ := h
  refine ⟨a, cap, e, ?_⟩
  rcases h1 with h1 | ⟨g1, off, e1, h2, h3⟩
  · exact Or.inl h1
  · exact Or.inr ⟨g1, off, e1, h2, fun i hi => ⟨g.cell (hn g1 h2) (h3 i hi).1, g.cell (hn g1 h2) (h3 i hi).2⟩⟩

theorem Grid.base {w : World} {B B' L n m k : Nat} {gs : Nat → Nat} {W : Nat → Nat → Nat} (h : Grid w B L n m k gs W) (hb : B' ≤ B) : Grid w B' L n m k gs W :=
  { h with bl := by have := h.bl; omega, bg := fun i hi => by have := h.bg i hi; omega }

theorem Done.chg {w w' : World} {b n : Nat} {ps : Pairs} {mv sv : Value} {L : Nat} {gs : Nat → Nat} {W : Nat → Nat → Nat} (h : Done w b n ps mv sv L gs W) {S : Nat → Prop} (g : Chg S w w') (hn : ∀ x, x < w.heap.size → ¬ S x) : Done w' b n ps mv sv L gs W := by
  obtain ⟨pv, k, h1, h2, h3, h4⟩ := h
  have hb := h2.lt
  exact ⟨pv, k, h1.chg g (fun x hx => hn x (by omega)), h2.chg g (hn b hb), h3.chg g (fun x _ hx => hn x hx), h4⟩

theorem Rs.chg {w w' : World} {b n : Nat} {ps : Pairs} {mv sv : Value} (h : Rs w b n ps mv sv) {S : Nat → Prop} (g : Chg S w w') (hn : ∀ x, x < w.heap.size → ¬ S x) : Rs w' b n ps mv sv := by
  rcases h with ⟨pv, k, h1, h2⟩ | ⟨L, gs, W, h⟩
  · have hb := h2.lt
    exact Or.inl ⟨pv, k, h1.chg g (fun x hx => hn x (by omega)), h2.chg g (hn b hb)⟩
  · exact Or.inr ⟨L, gs, W, h.chg g hn⟩

theorem Rs.lt {w : World} {b n : Nat} {ps : Pairs} {mv sv : Value} (h : Rs w b n ps mv sv) : b < w.heap.size := by
  rcases h with ⟨pv, k, h1, h2⟩ | ⟨L, gs, W, pv, k, h1, h2, _⟩ <;> exact h2.lt
theorem Rs.n {w : World} {b n : Nat} {ps : Pairs} {mv sv : Value} (h : Rs w b n ps mv sv) : w.cell? ⟨b, 0, none⟩ = some (.int .i64 (n : Int)) := by
  rcases h with ⟨pv, k, h1, h2⟩ | ⟨L, gs, W, pv, k, h1, h2, _⟩ <;> exact blk_cell h2 0
theorem Rs.kinds {w : World} {b n : Nat} {ps : Pairs} {mv sv : Value} (h : Rs w b n ps mv sv) : w.cell? ⟨b, 2, none⟩ = some mv := by
  rcases h with ⟨pv, k, h1, h2⟩ | ⟨L, gs, W, pv, k, h1, h2, _⟩ <;> exact blk_cell h2 2
theorem Rs.pairs {w : World} {b n : Nat} {ps : Pairs} {mv sv : Value} (h : Rs w b n ps mv sv) : ∃ pv, PRow w b pv ps ∧ w.cell? ⟨b, 1, none⟩ = some pv := by
  rcases h with ⟨pv, k, h1, h2⟩ | ⟨L, gs, W, pv, k, h1, h2, _⟩ <;> exact ⟨pv, h1, blk_cell h2 1⟩
theorem Rs.status {w : World} {b n : Nat} {ps : Pairs} {mv sv : Value} (h : Rs w b n ps mv sv) : w.cell? ⟨b, 8, none⟩ = some sv := by
  rcases h with ⟨pv, k, h1, h2⟩ | ⟨L, gs, W, pv, k, h1, h2, _⟩ <;> exact blk_cell h2 8

set_option maxRecDepth 100000 in
set_option maxHeartbeats 4000000 in
/-- 'rows' of a rank whose rows are made. -/
theorem rows_done (b n : Nat) (ps : Pairs) (mv sv : Value) (L : Nat) (gs : Nat → Nat) (W : Nat → Nat → Nat) (w : World) (h : Done w b n ps mv sv L gs W) :
    Calls Try.prog 25 #[.pointer (some ⟨b, 0, none⟩)] w fun e w' => e = .returned (.slice (some ⟨L, 0, none⟩) n n) ∧ Done w' b n ps mv sv L gs W ∧ Chg (fun x => x = b) w w' := by
  obtain ⟨pv, k, h1, h2, h3, h4⟩ := h
  have hmf : ∀ (fn : Fn) (first cap : Array Value) (w : World), (Instr.makeFunc fn first cap).run Try.prog w = .ok (.func fn first cap) w := fun _ _ _ _ => rfl
  have g0 := al w (.cells #[.pointer (some ⟨b, 0, none⟩)] 26)
  have p0 : (w.alloc (.cells #[.pointer (some ⟨b, 0, none⟩)] 26)).cell? ⟨w.heap.size, 0, none⟩ = some (.pointer (some ⟨b, 0, none⟩)) := blk_cell (blk_new w _) 0
  obtain ⟨w1, hw1⟩ : ∃ w1, w.alloc (.cells #[.pointer (some ⟨b, 0, none⟩)] 26) = w1 := ⟨_, rfl⟩
  have lb := h2.lt
  have ne : w.heap.size ≠ b := by omega
  rw [hw1] at g0 p0
  have h2' := h2.chg g0 (fun h => h)
  have c7 : w1.cell? ⟨b, 7, none⟩ = some (.int .i64 k) := blk_cell h2' 7
  have f7 : w1.frozen? ⟨b, 7, none⟩ = false := blk_free h2' 7
  have ad := hide (int64Add ⟨b, 7, none⟩ k 1 w1 c7 f7)
  have r2 : Rk (w1.setCell ⟨b, 7, none⟩ (.int .i64 (wrap64 (k + 1)))) b n pv mv 1 0 (.slice (some ⟨L, 0, none⟩) n n) (wrap64 (k + 1)) sv := blk_set h2' 7 _
  have gb := Chg.set w1 b 7 (.int .i64 (wrap64 (k + 1)))
  have q0 := gb.cell ne p0
  have c3 : (w1.setCell ⟨b, 7, none⟩ (.int .i64 (wrap64 (k + 1)))).cell? ⟨b, 3, none⟩ = some (.int .u32 1) := blk_cell r2 3
  have c6 : (w1.setCell ⟨b, 7, none⟩ (.int .i64 (wrap64 (k + 1)))).cell? ⟨b, 6, none⟩ = some (.slice (some ⟨L, 0, none⟩) n n) := blk_cell r2 6
  have dn := hide (fun fv => do_done ⟨b, 3, none⟩ fv _ c3)
  have F := hide (And.intro (⟨pv, wrap64 (k + 1), (h1.chg g0 (fun _ _ h => h)).chg gb (fun x hx e => by omega), r2, (h3.chg g0 (fun _ _ _ h => h)).chg gb (fun x hx _ e => by omega), h4⟩ : Done (w1.setCell ⟨b, 7, none⟩ (.int .i64 (wrap64 (k + 1)))) b n ps mv sv L gs W) (g0.none.trans gb))
  clear h1 h2 h3 h4 h2' r2 gb g0 c7 f7 c3
  generalize hw2 : w1.setCell ⟨b, 7, none⟩ (.int .i64 (wrap64 (k + 1))) = w2 at *
  go_enter Try.func25, Try.ntmps25
  go_wp2_with (first | (go_at_call 38; refine ad.out.mono ?_; rintro e w' ⟨rfl, rfl⟩) | (go_at_call 39; refine (dn.out _).mono ?_; rintro e w' ⟨rfl, rfl⟩))
  go_ret
  exact ⟨rfl, F.out⟩

set_option maxRecDepth 100000 in
set_option maxHeartbeats 4000000 in
/-- 'rows' of a rank whose rows are not made yet. -/
theorem rows_fresh (b n : Nat) (hn : n ≤ 1000) (ps : Pairs) (hps : ps.length ≤ 1000000) (hbd : Bd ps n) (pv mv rv sv : Value) (k : Int) (w : World) (h1 : PRow w b pv ps) (h2 : Rk w b n pv mv 0 0 rv k sv) :
    Calls Try.prog 25 #[.pointer (some ⟨b, 0, none⟩)] w fun e w' => ∃ L gs W, e = .returned (.slice (some ⟨L, 0, none⟩) n n) ∧ Done w' b n ps mv sv L gs W ∧ Chg (fun x => x = b) w w' := by
  have hmf : ∀ (fn : Fn) (first cap : Array Value) (w : World), (Instr.makeFunc fn first cap).run Try.prog w = .ok (.func fn first cap) w := fun _ _ _ _ => rfl
  have g0 := al w (.cells #[.pointer (some ⟨b, 0, none⟩)] 26)
  have p0 : (w.alloc (.cells #[.pointer (some ⟨b, 0, none⟩)] 26)).cell? ⟨w.heap.size, 0, none⟩ = some (.pointer (some ⟨b, 0, none⟩)) := blk_cell (blk_new w _) 0
  obtain ⟨w1, hw1⟩ : ∃ w1, w.alloc (.cells #[.pointer (some ⟨b, 0, none⟩)] 26) = w1 := ⟨_, rfl⟩
  have lb := h2.lt
  have ne : w.heap.size ≠ b := by omega
  rw [hw1] at g0 p0
  have h2' := h2.chg g0 (fun h => h)
  have c7 : w1.cell? ⟨b, 7, none⟩ = some (.int .i64 k) := blk_cell h2' 7
  have f7 : w1.frozen? ⟨b, 7, none⟩ = false := blk_free h2' 7
  have ad := hide (int64Add ⟨b, 7, none⟩ k 1 w1 c7 f7)
  have r2 : Rk (w1.setCell ⟨b, 7, none⟩ (.int .i64 (wrap64 (k + 1)))) b n pv mv 0 0 rv (wrap64 (k + 1)) sv := blk_set h2' 7 _
  have gb := Chg.set w1 b 7 (.int .i64 (wrap64 (k + 1)))
  have q0 := gb.cell ne p0
  have v2 := (h1.chg g0 (fun _ _ h => h)).chg gb (fun x hx e => by omega)
  have gg : Chg (fun x => x = b) w (w1.setCell ⟨b, 7, none⟩ (.int .i64 (wrap64 (k + 1)))) := g0.none.trans gb
  generalize wrap64 (k + 1) = k2 at *
  obtain ⟨w2, hw2⟩ : ∃ w2, w1.setCell ⟨b, 7, none⟩ (.int .i64 k2) = w2 := ⟨_, rfl⟩
  rw [hw2] at r2 gb q0 v2 gg
  have dn := hide (do_first b ⟨w.heap.size, 0, none⟩ n pv mv rv k2 sv (fun w4 rv' => ∃ L gs W, rv' = .slice (some ⟨L, 0, none⟩) n n ∧ Grid w4 (b + 1) L n ((n + 63) / 64) n gs W ∧ Bits n W (Reach ps) ∧ Chg (fun x => x = b) w2 w4) w2 r2
    (fun w3 hr3 g3 => (closure_any b w.heap.size n pv mv rv sv k2 ps hn hps hbd w3 hr3 (g3.cell ne q0) (v2.chg g3 (fun x hx e => by omega))).mono (fun e w4 ⟨he, L, gs, W, hr4, hg4, hb4, hc4⟩ =>
      ⟨he, _, hr4, L, gs, W, rfl, hg4.base (by have := hr3.lt; omega), hb4, g3.trans hc4⟩)))
  have F : ∀ w4 rv', Rk w4 b n pv mv 0 1 rv' k2 sv → (∃ L gs W, rv' = .slice (some ⟨L, 0, none⟩) n n ∧ Grid w4 (b + 1) L n ((n + 63) / 64) n gs W ∧ Bits n W (Reach ps) ∧ Chg (fun x => x = b) w2 w4) →
      ∃ L gs W, ((w4.drew.setCell ⟨b, 3, none⟩ (.int .u32 1)).setCell ⟨b, 4, none⟩ (.int .i32 0)).cell? ⟨b, 6, none⟩ = some (.slice (some ⟨L, 0, none⟩) n n) ∧
        ((w4.drew.setCell ⟨b, 3, none⟩ (.int .u32 1)).setCell ⟨b, 4, none⟩ (.int .i32 0)).cell? ⟨w.heap.size, 0, none⟩ = some (.pointer (some ⟨b, 0, none⟩)) ∧
        Done ((w4.drew.setCell ⟨b, 3, none⟩ (.int .u32 1)).setCell ⟨b, 4, none⟩ (.int .i32 0)) b n ps mv sv L gs W ∧ Chg (fun x => x = b) w ((w4.drew.setCell ⟨b, 3, none⟩ (.int .u32 1)).setCell ⟨b, 4, none⟩ (.int .i32 0)) := by
    intro w4 rv' hr4 ⟨L, gs, W, e, hg, hb, hc⟩
    subst e
    have s1 : Rk (w4.drew.setCell ⟨b, 3, none⟩ (.int .u32 1)) b n pv mv 1 1 (.slice (some ⟨L, 0, none⟩) n n) k2 sv := blk_set (w := w4.drew) hr4 3 _
    have s2 : Rk ((w4.drew.setCell ⟨b, 3, none⟩ (.int .u32 1)).setCell ⟨b, 4, none⟩ (.int .i32 0)) b n pv mv 1 0 (.slice (some ⟨L, 0, none⟩) n n) k2 sv := blk_set s1 4 _
    have d0 : Chg (fun x => x = b) w4 w4.drew := (Chg.refl _ _).drew
    have d1 := (d0.trans (Chg.set w4.drew b 3 (.int .u32 1))).trans (Chg.set (w4.drew.setCell ⟨b, 3, none⟩ (.int .u32 1)) b 4 (.int .i32 0))
    exact ⟨L, gs, W, blk_cell s2 6, (hc.trans d1).cell ne q0, ⟨pv, k2, v2.chg (hc.trans d1) (fun x hx e => by omega), s2, hg.chg d1 (fun x hx _ e => by omega), hb⟩, (gg.trans hc).trans d1⟩
  have FF := hide F
  clear F h1 h2 h2' r2 gb g0 c7 f7 v2 gg
  go_enter Try.func25, Try.ntmps25
  go_wp2_with (first | (go_at_call 38; refine ad.out.mono ?_; rintro e w' ⟨rfl, rfl⟩) | (go_at_call 39; refine dn.out.mono ?_; rintro e w' ⟨rfl, w4, rv', hr4, hp4, rfl⟩; obtain ⟨L, gs, W, c6, cp, hD, hC⟩ := FF.out w4 rv' hr4 hp4; have HD := hide hD; have HC := hide hC; clear hD hC hp4 hr4; generalize ((w4.drew.setCell ⟨b, 3, none⟩ (.int .u32 1)).setCell ⟨b, 4, none⟩ (.int .i32 0)) = w5 at *))
  go_ret
  exact ⟨L, gs, W, rfl, HD.out, HC.out⟩

theorem rows_any (b n : Nat) (hn : n ≤ 1000) (ps : Pairs) (hps : ps.length ≤ 1000000) (hbd : Bd ps n) (mv sv : Value) (w : World) (h : Rs w b n ps mv sv) :
    Calls Try.prog 25 #[.pointer (some ⟨b, 0, none⟩)] w fun e w' => ∃ L gs W, e = .returned (.slice (some ⟨L, 0, none⟩) n n) ∧ Done w' b n ps mv sv L gs W ∧ Chg (fun x => x = b) w w' := by
  rcases h with ⟨pv, k, h1, h2⟩ | ⟨L, gs, W, h⟩
  · exact rows_fresh b n hn ps hps hbd pv mv _ sv k w h1 h2
  · exact (rows_done b n ps mv sv L gs W w h).mono fun e w' ⟨h1, h2, h3⟩ => ⟨L, gs, W, h1, h2, h3⟩

/-- Is the one above the other, of whatever numbers? -/
def abv (n : Nat) (ps : Pairs) (x y : Int) : Bool := decide (0 ≤ x) && (decide (x < n) && (decide (0 ≤ y) && (decide (y < n) && above ps x.toNat y.toNat)))

theorem len_some (b n : Nat) (w : World) (h : w.cell? ⟨b, 0, none⟩ = some (.int .i64 (n : Int))) :
    Calls Try.prog 12 #[.pointer (some ⟨b, 0, none⟩)] w fun e w' => e = .returned (.int .i64 (n : Int)) ∧ w = w' := by
  go_enter Try.func12, Try.ntmps12
  go_wp2_with fail
  go_ret
  exact ⟨rfl, rfl⟩

theorem len_nil (w : World) : Calls Try.prog 12 #[.pointer none] w fun e w' => e = .returned (.int .i64 0) ∧ w = w' := by
  go_enter Try.func12, Try.ntmps12
  go_wp2_with fail
  go_ret
  exact ⟨rfl, rfl⟩

theorem above_nil (x y : Int) (w : World) : Calls Try.prog 13 #[.pointer none, .int .i64 x, .int .i64 y] w fun e w' => e = .returned (.bool false) ∧ w = w' := by
  go_enter Try.func13, Try.ntmps13
  go_wp2_with fail
  go_ret
  exact ⟨rfl, rfl⟩

set_option maxRecDepth 100000 in
theorem above_out (b n : Nat) (x y : Int) (hxy : x < 0 ∨ (n : Int) ≤ x ∨ y < 0 ∨ (n : Int) ≤ y) (w : World) (h : w.cell? ⟨b, 0, none⟩ = some (.int .i64 (n : Int))) :
    Calls Try.prog 13 #[.pointer (some ⟨b, 0, none⟩), .int .i64 x, .int .i64 y] w fun e w' => e = .returned (.bool false) ∧ w = w' := by
  by_cases h1 : x < 0
  · go_enter Try.func13, Try.ntmps13
    go_wp2_with fail
    go_ret
    exact ⟨rfl, rfl⟩
  · have q1 : decide (x < 0) = false := by simp; omega
    by_cases h2 : (n : Int) ≤ x
    · have q2 : decide ((n : Int) ≤ x) = true := by simp; omega
      go_enter Try.func13, Try.ntmps13
      go_wp2_with fail
      go_ret
      exact ⟨rfl, rfl⟩
    · have q2 : decide ((n : Int) ≤ x) = false := by simp; omega
      by_cases h3 : y < 0
      · have q3 : decide (y < 0) = true := by simp; omega
        go_enter Try.func13, Try.ntmps13
        go_wp2_with fail
        go_ret
        exact ⟨rfl, rfl⟩
      · have q3 : decide (y < 0) = false := by simp; omega
        have h4 : (n : Int) ≤ y := by omega
        have q4 : decide ((n : Int) ≤ y) = true := by simp; omega
        go_enter Try.func13, Try.ntmps13
        go_wp2_with fail
        go_ret
        exact ⟨rfl, rfl⟩

set_option maxRecDepth 100000 in
set_option maxHeartbeats 4000000 in
theorem above_in (b n : Nat) (hn : n ≤ 1000) (ps : Pairs) (hps : ps.length ≤ 1000000) (hbd : Bd ps n) (mv sv : Value) (x y : Nat) (hx : x < n) (hy : y < n) (w : World) (h : Rs w b n ps mv sv) :
    Calls Try.prog 13 #[.pointer (some ⟨b, 0, none⟩), .int .i64 (x : Int), .int .i64 (y : Int)] w fun e w' => e = .returned (.bool (above ps x y)) ∧ Rs w' b n ps mv sv ∧ Chg (fun z => z = b) w w' := by
  have c0 := h.n
  have ro := hide (rows_any b n hn ps hps hbd mv sv w h)
  have q1 : decide ((x : Int) < 0) = false := by simp
  have q2 : decide ((n : Int) ≤ (x : Int)) = false := by simp; omega
  have q3 : decide ((y : Int) < 0) = false := by simp
  have q4 : decide ((n : Int) ≤ (y : Int)) = false := by simp; omega
  have i0 : (0 : Int) ≤ (x : Int) := by omega
  have i1 : (x : Int) < (n : Int) := by omega
  clear h
  go_enter Try.func13, Try.ntmps13
  go_wp2_with fail
  refine ro.out.mono ?_
  rintro e w1 ⟨L, gs, W, rfl, hD, hC⟩
  have HC := hide hC
  have hR := hide (Or.inr ⟨L, gs, W, hD⟩ : Rs w1 b n ps mv sv)
  obtain ⟨pv, k, d1, d2, d3, d4⟩ := hD
  have cL := d3.cell hx
  have hs := hide (has_any (gs x) ((n + 63) / 64) ((n + 63) / 64) y (W x) (by omega) (by omega) w1 (d3.rows x hx))
  have hbit : bitAt (W x) y = above ps x y := by
    have h1 := d4 x y hx hy
    have h2 := above_iff ps x y
    cases h3 : above ps x y
    · cases h4 : bitAt (W x) y
      · rfl
      · have := h2.2 (h1.1 h4)
        rw [h3] at this
        cases this
    · exact h1.2 (h2.1 h3)
  rw [hbit] at hs
  clear d1 d2 d3 d4 hC hbit ro
  go_wp2_with fail
  refine hs.out.mono ?_
  rintro e w2 ⟨rfl, rfl⟩
  go_wp2_with fail
  go_ret
  exact ⟨rfl, hR.out, HC.out⟩

theorem above_any (b n : Nat) (hn : n ≤ 1000) (ps : Pairs) (hps : ps.length ≤ 1000000) (hbd : Bd ps n) (mv sv : Value) (x y : Int) (w : World) (h : Rs w b n ps mv sv) :
    Calls Try.prog 13 #[.pointer (some ⟨b, 0, none⟩), .int .i64 x, .int .i64 y] w fun e w' => e = .returned (.bool (abv n ps x y)) ∧ Rs w' b n ps mv sv ∧ Chg (fun z => z = b) w w' := by
  by_cases hxy : x < 0 ∨ (n : Int) ≤ x ∨ y < 0 ∨ (n : Int) ≤ y
  · have e : abv n ps x y = false := by
      unfold abv
      rcases hxy with h | h | h | h
      · rw [show decide (0 ≤ x) = false by simp; omega]; rfl
      · rw [show decide (x < (n : Int)) = false by simp; omega]; simp
      · rw [show decide (0 ≤ y) = false by simp; omega]; simp
      · rw [show decide (y < (n : Int)) = false by simp; omega]; simp
    rw [e]
    exact (above_out b n x y hxy w h.n).mono fun e w' ⟨h1, h2⟩ => by subst h2; exact ⟨h1, h, Chg.refl _ _⟩
  · obtain ⟨x, rfl⟩ : ∃ k : Nat, x = k := ⟨x.toNat, by omega⟩
    obtain ⟨y, rfl⟩ : ∃ k : Nat, y = k := ⟨y.toNat, by omega⟩
    have e : abv n ps (x : Int) (y : Int) = above ps x y := by
      unfold abv
      rw [show decide ((0 : Int) ≤ (x : Int)) = true by simp, show decide ((x : Int) < (n : Int)) = true by simp; omega, show decide ((0 : Int) ≤ (y : Int)) = true by simp, show decide ((y : Int) < (n : Int)) = true by simp; omega]
      simp
    rw [e]
    exact above_in b n hn ps hps hbd mv sv x y (by omega) (by omega) w h

end Go.Proofs.Ytdcpcemihpkkaaa
