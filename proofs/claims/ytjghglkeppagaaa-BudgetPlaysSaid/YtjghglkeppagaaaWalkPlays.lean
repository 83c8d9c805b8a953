/- The walk of BudgetPlays. -/
import Derived.Test.YtjghglkeppagaaaPlays
import Derived.Deep.RegionHeld3
import Derived.Deep.RegionLaw
import Derived.Deep.QuietTactic
namespace Go.Proofs.Ytjghglkeppagaaa
open Go.RowKit

/-- An act: kind, at, n, of. -/
abbrev Act4 := Int × Int × Int × Int
def ARow (W : World) (g off : Nat) (fs : List Act4) : Prop :=
  ∀ i (h : i < fs.length), W.cell? ⟨g, off + i * 4, none⟩ = some (.int .i64 (fs[i]'h).1) ∧ W.cell? ⟨g, off + i * 4 + 1, none⟩ = some (.int .i64 (fs[i]'h).2.1) ∧
    W.cell? ⟨g, off + i * 4 + 2, none⟩ = some (.int .i64 (fs[i]'h).2.2.1) ∧ W.cell? ⟨g, off + i * 4 + 3, none⟩ = some (.int .i64 (fs[i]'h).2.2.2)

theorem mod3 (n : Int) : ∃ x : Nat, x < 3 ∧ wrap64 ((IntKind.u64.wrap n).tmod 3) = (x : Int) := by
  have := mod_bd n 3 (by omega) (by omega)
  exact ⟨(wrap64 ((IntKind.u64.wrap n).tmod 3)).toNat, by omega, by omega⟩

theorem refNew_at (n : Int) (hn : 0 ≤ n) (w : World) :
    Calls Try.prog 9 #[.int .i64 n] w fun e w' => e = .returned (.pointer (some ⟨w.heap.size, 0, none⟩)) ∧ w' = w.alloc (.cells #[.int .i64 n, .int .i64 0, .bool false] 63) := by
  have := refNew n w
  rw [show max n 0 = n by omega] at this
  exact this

theorem alloc_at (w : World) (o : Obj) (k : Nat) (h : k < w.heap.size) : (w.alloc o).heap[k]? = w.heap[k]? := Below.heap_alloc _ _ _ h
theorem alloc_new (w : World) (o : Obj) (k : Nat) (h : k = w.heap.size) : (w.alloc o).heap[k]? = some o := by subst h; exact heap_alloc_new w o
theorem alloc_size (w : World) (o : Obj) : (w.alloc o).heap.size = w.heap.size + 1 := by simp

theorem cell_new (w : World) (v : Value) : (w.alloc (.cells #[v] 24)).cell? ⟨w.heap.size, 0, none⟩ = some v := by
  have h := alloc_new w (.cells #[v] 24) w.heap.size rfl
  simp only [World.cell?, h]
  rfl

def nth {α : Type} (a b c : α) (k : Nat) : α := if k = 0 then a else if k = 1 then b else c

theorem plays_start (w w1 w2 w3 : World) (m : Int) (hm0 : 0 ≤ m) (hm1 : m < 1000000) (p1 : PB w1 w.heap.size m 0 false) (g1 : Chg (fun _ => False) w w1) (p2 : PB w2 w1.heap.size 7 0 false) (g2 : Chg (fun _ => False) w1 w2)
    (p3 : PB w3 w2.heap.size 0 0 false) (g3 : Chg (fun _ => False) w2 w3) (A : Nat) (hA : w3.heap.size = A) :
    Good w (((((w3.alloc (.cells #[.pointer (some ⟨w.heap.size, 0, none⟩), .pointer (some ⟨w1.heap.size, 0, none⟩), .pointer (some ⟨w2.heap.size, 0, none⟩)] 36)).alloc
      (.cells #[.int .i64 m, .int .i64 0, .bool false] 63)).alloc (.cells #[.int .i64 7, .int .i64 0, .bool false] 63)).alloc (.cells #[.int .i64 0, .int .i64 0, .bool false] 63)).alloc
      (.cells #[.pointer (some ⟨A + 1, 0, none⟩), .pointer (some ⟨A + 1 + 1, 0, none⟩), .pointer (some ⟨A + 1 + 1 + 1, 0, none⟩)] 37))
      A (A + 1 + 1 + 1 + 1) (nth w.heap.size w1.heap.size w2.heap.size) (nth (A + 1) (A + 1 + 1) (A + 1 + 1 + 1)) (nth m 7 0) (fun _ => 0) (fun _ => false) := by
  have z1 := p1.lt
  have z2 := p2.lt
  have z3 := p3.lt
  have q1 := (p1.chg g2 (fun h => h)).chg g3 (fun h => h)
  have q2 := p2.chg g3 (fun h => h)
  have g0 : Chg (fun _ => False) w w3 := (g1.trans g2).trans g3
  obtain ⟨o1, ho1⟩ : ∃ o, o = Obj.cells #[.pointer (some ⟨w.heap.size, 0, none⟩), .pointer (some ⟨w1.heap.size, 0, none⟩), .pointer (some ⟨w2.heap.size, 0, none⟩)] 36 := ⟨_, rfl⟩
  obtain ⟨o2, ho2⟩ : ∃ o, o = Obj.cells #[.int .i64 m, .int .i64 0, .bool false] 63 := ⟨_, rfl⟩
  obtain ⟨o3, ho3⟩ : ∃ o, o = Obj.cells #[.int .i64 7, .int .i64 0, .bool false] 63 := ⟨_, rfl⟩
  obtain ⟨o4, ho4⟩ : ∃ o, o = Obj.cells #[.int .i64 0, .int .i64 0, .bool false] 63 := ⟨_, rfl⟩
  obtain ⟨o5, ho5⟩ : ∃ o, o = Obj.cells #[.pointer (some ⟨A + 1, 0, none⟩), .pointer (some ⟨A + 1 + 1, 0, none⟩), .pointer (some ⟨A + 1 + 1 + 1, 0, none⟩)] 37 := ⟨_, rfl⟩
  rw [← ho1, ← ho2, ← ho3, ← ho4, ← ho5]
  have s1 := g1.size
  have s2 := g2.size
  have s3 := g3.size
  have cc : Chg (fun _ => False) w3 (((((w3.alloc o1).alloc o2).alloc o3).alloc o4).alloc o5) := ((((((Chg.refl _ _).alloc _).alloc _).alloc _).alloc _).alloc _)
  exact {
    a := by
      unfold Ptrs
      rw [alloc_at _ _ _ (by simp only [alloc_size]; omega), alloc_at _ _ _ (by simp only [alloc_size]; omega), alloc_at _ _ _ (by simp only [alloc_size]; omega), alloc_at _ _ _ (by simp only [alloc_size]; omega), alloc_new _ _ _ hA.symm, ho1]
      rfl
    b := by
      unfold Ptrs
      rw [alloc_new _ _ _ (by simp only [alloc_size]; omega), ho5]
      rfl
    pb := fun i hi => by
      rcases three hi with rfl | rfl | rfl
      · exact q1.chg cc (fun h => h)
      · exact q2.chg cc (fun h => h)
      · exact p3.chg cc (fun h => h)
    rb := fun i hi => by
      rcases three hi with rfl | rfl | rfl
      · show (((((w3.alloc o1).alloc o2).alloc o3).alloc o4).alloc o5).heap[A + 1]? = _
        rw [alloc_at _ _ _ (by simp only [alloc_size]; omega), alloc_at _ _ _ (by simp only [alloc_size]; omega), alloc_at _ _ _ (by simp only [alloc_size]; omega), alloc_new _ _ _ (by simp only [alloc_size]; omega), ho2]
        rfl
      · show (((((w3.alloc o1).alloc o2).alloc o3).alloc o4).alloc o5).heap[A + 1 + 1]? = _
        rw [alloc_at _ _ _ (by simp only [alloc_size]; omega), alloc_at _ _ _ (by simp only [alloc_size]; omega), alloc_new _ _ _ (by simp only [alloc_size]; omega), ho3]
        rfl
      · show (((((w3.alloc o1).alloc o2).alloc o3).alloc o4).alloc o5).heap[A + 1 + 1 + 1]? = _
        rw [alloc_at _ _ _ (by simp only [alloc_size]; omega), alloc_new _ _ _ (by simp only [alloc_size]; omega), ho4]
        rfl
    ab := by omega
    pa := fun i hi => by rcases three hi with rfl | rfl | rfl <;> simp only [nth] <;> simp <;> omega
    pB := fun i hi => by rcases three hi with rfl | rfl | rfl <;> simp only [nth] <;> simp <;> omega
    qa := fun i hi => by rcases three hi with rfl | rfl | rfl <;> simp only [nth] <;> simp <;> omega
    qB := fun i hi => by rcases three hi with rfl | rfl | rfl <;> simp only [nth] <;> simp <;> omega
    pq := fun i j hi hj => by unfold nth; repeat' split
                              all_goals omega
    pp := fun i j hi hj hij => by unfold nth; repeat' split
                                  all_goals omega
    qq := fun i j hi hj hij => by unfold nth; repeat' split
                                  all_goals omega
    la := by omega
    lb := by omega
    lp := fun i hi => by unfold nth; repeat' split
                         all_goals omega
    lq := fun i hi => by unfold nth; repeat' split
                         all_goals omega
    chg := (g0.trans cc).mono (fun _ _ h => h.elim)
    l0 := fun i hi => by unfold nth; repeat' split
                         all_goals omega
    ls := by simp [nth]; omega
    s0 := fun i hi => by unfold nth; repeat' split
                         all_goals omega
    s1 := fun i hi => by unfold nth; repeat' split
                         all_goals omega }

theorem plays_end {w0 w w' : World} {A B : Nat} {P Q : Nat → Nat} {l u : Nat → Int} {d : Nat → Bool} (h : Good w0 w A B P Q l u d) (g : Chg (fun _ => False) w w') : Below w0.heap.size w0 w' :=
  (h.chg.trans (g.mono (fun _ _ h => h.elim))).below (Nat.le_refl _) (fun _ h => h)

theorem act_alloc {w0 w : World} {A B : Nat} {P Q : Nat → Nat} {l u : Nat → Int} {d : Nat → Bool} (h : Good w0 w A B P Q l u d) (f0 f1 f2 f3 : Int) :
    Good w0 (w.alloc (Obj.cells #[.int .i64 f0, .int .i64 f1, .int .i64 f2, .int .i64 f3] 39)) A B P Q l u d ∧
    (w.alloc (Obj.cells #[.int .i64 f0, .int .i64 f1, .int .i64 f2, .int .i64 f3] 39)).cell? ⟨w.heap.size, 0, none⟩ = some (.int .i64 f0) ∧
    (w.alloc (Obj.cells #[.int .i64 f0, .int .i64 f1, .int .i64 f2, .int .i64 f3] 39)).cell? ⟨w.heap.size, 1, none⟩ = some (.int .i64 f1) ∧
    (w.alloc (Obj.cells #[.int .i64 f0, .int .i64 f1, .int .i64 f2, .int .i64 f3] 39)).cell? ⟨w.heap.size, 2, none⟩ = some (.int .i64 f2) ∧
    (w.alloc (Obj.cells #[.int .i64 f0, .int .i64 f1, .int .i64 f2, .int .i64 f3] 39)).cell? ⟨w.heap.size, 3, none⟩ = some (.int .i64 f3) :=
  ⟨h.keep ((Chg.refl (fun _ => False) _).alloc _) (fun _ h => h.elim), by simp, by simp, by simp, by simp⟩

theorem Good.drewn {w0 w : World} {A B : Nat} {P Q : Nat → Nat} {l u : Nat → Int} {d : Nat → Bool} (h : Good w0 w A B P Q l u d) : Good w0 w.drew A B P Q l u d :=
  h.keep (Chg.refl (fun _ => False) _).drew (fun _ h => h.elim)

theorem Good.drewsN {w0 w : World} {A B : Nat} {P Q : Nat → Nat} {l u : Nat → Int} {d : Nat → Bool} (h : Good w0 w A B P Q l u d) (n : Nat) : Good w0 (w.drewN n) A B P Q l u d :=
  h.keep (S := fun _ => False) ⟨rfl, rfl, rfl, Nat.le_refl _, fun _ _ _ => rfl⟩ (fun _ h => h.elim)

theorem Good.alloced {w0 w w' : World} {o : Obj} {A B : Nat} {P Q : Nat → Nat} {l u : Nat → Int} {d : Nat → Bool} (h : Good w0 w A B P Q l u d) (e : w.alloc o = w') : Good w0 w' A B P Q l u d := by
  subst e
  exact h.keep ((Chg.refl (fun _ => False) _).alloc _) (fun _ h => h.elim)

set_option linter.unusedVariables false
set_option linter.unusedSimpArgs false

set_option maxRecDepth 100000 in
set_option maxHeartbeats 8000000 in
theorem plays_some (n : Int) (g off cap len : Nat) (fs : List Act4) (hl : len ≤ cap) (h3 : cap ≤ 9223372036854775807) (hfl : fs.length = min len 200) (w : World) (hg : g < w.heap.size) (hA : ARow w g off fs) :
    Calls Try.prog 5 #[.int .i64 n, .slice (some ⟨g, off, none⟩) len cap] w fun e w' => e = .returned (.bool true) ∧ Below w.heap.size w w' := by
  have HA := hide hA
  have HL := hide hfl
  clear hA hfl
  go_enter Try.func5, Try.ntmps5
  go_wp2_with fail
  have hbd := mod_bd n 1000000 (by omega) (by omega)
  generalize wrap64 ((IntKind.u64.wrap n).tmod 1000000) = m at *
  obtain ⟨hm0, hm1⟩ := hbd
  refine (pNew_at m m (Or.inr ⟨hm0, rfl⟩) _).mono ?_
  rintro e w1 ⟨rfl, p1, g1⟩
  go_wp2_with fail
  refine (pNew_at 7 7 (Or.inr ⟨by omega, rfl⟩) _).mono ?_
  rintro e w2 ⟨rfl, p2, g2⟩
  go_wp2_with fail
  refine (pNew_at 0 0 (Or.inr ⟨by omega, rfl⟩) _).mono ?_
  rintro e w3 ⟨rfl, p3, g3⟩
  go_wp2_with fail
  refine (refNew_at _ hm0 _).mono ?_
  rintro e w4 ⟨rfl, hw4⟩
  go_wp2_with fail
  refine (refNew_at _ (by omega) _).mono ?_
  rintro e w5 ⟨rfl, hw5⟩
  go_wp2_with fail
  refine (refNew_at _ (by omega) _).mono ?_
  rintro e w6 ⟨rfl, hw6⟩
  go_wp2_with fail
  generalize hwa : w3.heap.size = A at *
  have st := hide (plays_start w w1 w2 w3 m hm0 hm1 p1 g1 p2 g2 p3 g3 A hwa)
  generalize ((((w3.alloc (.cells #[.pointer (some ⟨w.heap.size, 0, none⟩), .pointer (some ⟨w1.heap.size, 0, none⟩), .pointer (some ⟨w2.heap.size, 0, none⟩)] 36)).alloc
      (.cells #[.int .i64 m, .int .i64 0, .bool false] 63)).alloc (.cells #[.int .i64 7, .int .i64 0, .bool false] 63)).alloc (.cells #[.int .i64 0, .int .i64 0, .bool false] 63)).alloc
      (.cells #[.pointer (some ⟨A + 1, 0, none⟩), .pointer (some ⟨A + 1 + 1, 0, none⟩), .pointer (some ⟨A + 1 + 1 + 1, 0, none⟩)] 37) = W at *
  clear p1 g1 p2 g2 p3 g3 hw4 hw5 hw6 hwa
  generalize A + 1 + 1 + 1 + 1 = B at *
  go_loopw [7] (fun i wr => ∃ (k : Nat) (P Q : Nat → Nat) (l u : Nat → Int) (d : Nat → Bool), k ≤ len ∧ k ≤ 200 ∧ i = .int .i64 k ∧ Hid (Good w wr A B P Q l u d)) (fun i _ => 200 - (intOf i).toNat)
  case atStart => exact ⟨0, _, _, _, _, _, Nat.zero_le _, by omega, rfl, st⟩
  case round =>
    obtain ⟨k, P, Q, l, u, d, hk, hk2, rfl, hG⟩ := hrel
    by_cases hlt : k < len
    · by_cases hlt2 : k < 200
      · have hac := HA.out k (by have := HL.out; omega)
        generalize fs[k]'(by have := HL.out; omega) = f at hac
        obtain ⟨f0, f1, f2, f3⟩ := f
        obtain ⟨c0, c1, c2, c3⟩ := hac
        have H0 := hide (hG.out.chg.cell (g := g) (by omega) c0)
        have H1 := hide (hG.out.chg.cell (g := g) (by omega) c1)
        have H2 := hide (hG.out.chg.cell (g := g) (by omega) c2)
        have H3 := hide (hG.out.chg.cell (g := g) (by omega) c3)
        clear c0 c1 c2 c3
        have e0 := H0.out
        have e1 := H1.out
        have e2 := H2.out
        have e3 := H3.out
        go_wp2_with fail
        obtain ⟨hg2, b0, b1, b2, b3⟩ := act_alloc hG.out f0 f1 f2 f3
        have hD : Hid ((∀ i, i < 3 → P i ≠ wr.heap.size) ∧ (∀ i, i < 3 → Q i ≠ wr.heap.size) ∧ A ≠ wr.heap.size ∧ B ≠ wr.heap.size) := hide ⟨fun i hi => Nat.ne_of_lt (hG.out.pb i hi).lt, fun i hi => Nat.ne_of_lt (hG.out.rb i hi).lt, Nat.ne_of_lt hG.out.a.lt, Nat.ne_of_lt hG.out.b.lt⟩
        clear e0 e1 e2 e3 H0 H1 H2 H3 hG
        have hG := hide hg2
        clear hg2
        generalize wr.alloc (Obj.cells #[Value.int IntKind.i64 f0, Value.int IntKind.i64 f1, Value.int IntKind.i64 f2, Value.int IntKind.i64 f3] 39) = wr2 at *
        generalize wr.heap.size = D at *
        go_region
        obtain ⟨x, hx, ex⟩ := mod3 f1
        obtain ⟨y, hy, ey⟩ := mod3 f3
        rw [ex, ey]
        clear ex ey
        have hG4 := hide (hG.out.drewn)
        have b0 : wr2.drew.cell? ⟨D, 0, none⟩ = some (.int .i64 f0) := b0
        have b2 : wr2.drew.cell? ⟨D, 2, none⟩ = some (.int .i64 f2) := b2
        clear hG b1 b3
        generalize wr2.drew = w4 at *
        have px := hG4.out.a.cell hx
        have py := hG4.out.a.cell hy
        have qx := hG4.out.b.cell hx
        have qy := hG4.out.b.cell hy
        have bdx := hG4.out.bd hx
        have hxI : (0 : Int) ≤ (x : Int) := by omega
        have hxJ : (x : Int) < 3 := by omega
        have hyI : (0 : Int) ≤ (y : Int) := by omega
        have hyJ : (y : Int) < 3 := by omega
        have hPD : ¬ D = P x := fun e => hD.out.1 x hx e.symm
        have hQD : ¬ D = Q x := fun e => hD.out.2.1 x hx e.symm
        have hPA : ¬ A = P x := fun e => hG4.out.pa x hx e.symm
        have hPB : ¬ B = P x := fun e => hG4.out.pB x hx e.symm
        have hQA : ¬ A = Q x := fun e => hG4.out.qa x hx e.symm
        have hQB : ¬ B = Q x := fun e => hG4.out.qB x hx e.symm
        have hAD : A ≠ D := hD.out.2.2.1
        have hBD : B ≠ D := hD.out.2.2.2
        have hQP : ¬ Q x = P x := fun e => hG4.out.pq x x hx hx e.symm
        by_cases k0 : ((IntKind.u64.wrap f0).tmod 3 == 0) = true
        · have sp := hide (fun w' h => pSpend (P x) (l x) (u x) f2 (d x) w' h (by omega) (by omega) (by omega))
          have rs := hide (fun w' h => rSpend (Q x) (l x) (u x) f2 (d x) w' h (by omega) (by omega) (by omega))
          have sb := hide (sp_bd (l x) (u x) (d x) f2 bdx.1)
          go_wp2_with fail
          go_region_held3 (fun w' => w'.cell? ⟨D, 2, none⟩ = some (.int .i64 f2) ∧ w'.cell? ⟨A, x, none⟩ = some (.pointer (some ⟨P x, 0, none⟩)) ∧ w'.cell? ⟨B, x, none⟩ = some (.pointer (some ⟨Q x, 0, none⟩)))
            (go_keep)
            (first
              | (go_at_call 16; refine (sp.out _ (hG4.out.drewn.pb x hx)).mono ?_; rintro e w5 ⟨rfl, h5, g5⟩; have d0 : w5.cell? ⟨D, 2, none⟩ = some (.int .i64 f2) := g5.cell hPD b2; have d1 : w5.cell? ⟨A, x, none⟩ = some (.pointer (some ⟨P x, 0, none⟩)) := g5.cell hPA px; have d2 : w5.cell? ⟨B, x, none⟩ = some (.pointer (some ⟨Q x, 0, none⟩)) := g5.cell hPB qx)
              | (go_at_call 10; refine (rs.out _ ((hG4.out.drewn.rb x hx).chg g5 hQP)).mono ?_; rintro e w6 ⟨rfl, h6, g6⟩; have d3 : w6.cell? ⟨D, 2, none⟩ = some (.int .i64 f2) := g6.cell hQD d0; have d4 : w6.cell? ⟨A, x, none⟩ = some (.pointer (some ⟨P x, 0, none⟩)) := g6.cell hQA d1; have d5 : w6.cell? ⟨B, x, none⟩ = some (.pointer (some ⟨Q x, 0, none⟩)) := g6.cell hQB d2))
          have hG6 := hide (hG4.out.drewn.spend hx sb.out h5 g5 h6 g6)
          clear sp rs sb h5 g5 h6 g6 d0 d1 d2 d3 d4 d5 px py qx qy b0 b2 hG4 bdx
          generalize spOk (l x) (d x) f2 = ok at *
          have e9 : (ok != ok) = false := by simp
          have Z0 : (0 : Int) < 3 := by decide
          go_wp2_with fail
          refine wp_loop_rounds 4 ?_
          have tA := hG6.out.a.cell (x := 0) (by omega)
          have tB := hG6.out.b.cell (x := 0) (by omega)
          have sy := hide (fun n => same_yes _ _ _ _ _ (w6.drewN n) ((hG6.out.drewsN n).pb 0 (by omega)) ((hG6.out.drewsN n).rb 0 (by omega)))
          rw [rounds_succ]
          go_wp2_with fail
          go_quiet (first | (go_at_call 13; exact Calls.quiet_of (sy.out _)))
          have hG7 := hide (hG6.out.drewsN nq)
          clear tA tB sy hG6
          have hG6 := hG7
          clear hG7
          generalize w6.drewN nq = v0 at *
          go_wp2_with fail
          have tA := hG6.out.a.cell (x := 1) (by omega)
          have tB := hG6.out.b.cell (x := 1) (by omega)
          have sy := hide (fun n => same_yes _ _ _ _ _ (v0.drewN n) ((hG6.out.drewsN n).pb 1 (by omega)) ((hG6.out.drewsN n).rb 1 (by omega)))
          rw [rounds_succ]
          go_wp2_with fail
          go_quiet (first | (go_at_call 13; exact Calls.quiet_of (sy.out _)))
          have hG7 := hide (hG6.out.drewsN nq)
          clear tA tB sy hG6
          have hG6 := hG7
          clear hG7
          generalize v0.drewN nq = v1 at *
          go_wp2_with fail
          have tA := hG6.out.a.cell (x := 2) (by omega)
          have tB := hG6.out.b.cell (x := 2) (by omega)
          have sy := hide (fun n => same_yes _ _ _ _ _ (v1.drewN n) ((hG6.out.drewsN n).pb 2 (by omega)) ((hG6.out.drewsN n).rb 2 (by omega)))
          rw [rounds_succ]
          go_wp2_with fail
          go_quiet (first | (go_at_call 13; exact Calls.quiet_of (sy.out _)))
          have hG7 := hide (hG6.out.drewsN nq)
          clear tA tB sy hG6
          have hG6 := hG7
          clear hG7
          generalize v1.drewN nq = v2 at *
          go_wp2_with fail
          rw [rounds_succ]
          go_wp2_with fail
          go_roundw
          case rel => exact ⟨k + 1, _, _, _, _, _, by omega, by omega, by go_num, hG6⟩
          case measure => simp [intOf]; omega
        · have k0 := Bool.eq_false_iff.2 k0
          by_cases k1 : ((IntKind.u64.wrap f0).tmod 3 == 1) = true
          · have sp := hide (fun w' h => pSplit (P x) (l x) (u x) f2 (d x) w' h (by omega) (by omega) (by omega))
            have rs := hide (fun w' h => refSplit (Q x) (l x) (u x) f2 (d x) w' h (by omega) (by omega) (by omega))
            have hAB : A ≠ B := hG4.out.ab
            go_wp2_with fail
            refine wp_region_held_drew (S := (fun w' => w'.cell? ⟨D, 2, none⟩ = some (.int .i64 f2))) (by kernel_rfl) (by go_keep) (fun hHeld => ?_)
            first
              | (refine wpAnyH_take (i := 0) (v := undef) rfl (by kernel_rfl) (by kernel_rfl) (by kernel_rfl) (fun _ _ _ h => h) (Or.inr ⟨by rfl, rfl⟩) (by assumption) ?_)
              | (refine wpAnyH_take (i := 0) (v := ?_) rfl (by kernel_rfl) (by kernel_rfl) (by kernel_rfl) (fun _ _ _ h => h) (Or.inl ⟨by rfl, ?_⟩) (by assumption) ?_
                 rotate_left
                 (intro w hSw
                  (try dsimp only at hSw)
                  (go_simp <;> with_reducible rfl)))
            try simp only [Act.put, List.getElem_toArray, List.getElem_cons_zero, List.getElem_cons_succ, List.setIfInBounds_toArray, List.set_cons_zero, List.set_cons_succ]
            first
              | (refine wpAnyH_take (i := 1) (v := undef) rfl (by kernel_rfl) (by kernel_rfl) (by kernel_rfl) (fun _ _ _ h => h) (Or.inr ⟨by rfl, rfl⟩) (by assumption) ?_)
              | (refine wpAnyH_take (i := 1) (v := ?_) rfl (by kernel_rfl) (by kernel_rfl) (by kernel_rfl) (fun _ _ _ h => h) (Or.inl ⟨by rfl, ?_⟩) (by assumption) ?_
                 rotate_left
                 (intro w hSw
                  (try dsimp only at hSw)
                  (go_simp <;> with_reducible rfl)))
            try simp only [Act.put, List.getElem_toArray, List.getElem_cons_zero, List.getElem_cons_succ, List.setIfInBounds_toArray, List.set_cons_zero, List.set_cons_succ]
            first
              | (refine wpAnyH_take (i := 2) (v := undef) rfl (by kernel_rfl) (by kernel_rfl) (by kernel_rfl) (fun _ _ _ h => h) (Or.inr ⟨by rfl, rfl⟩) (by assumption) ?_)
              | (refine wpAnyH_take (i := 2) (v := ?_) rfl (by kernel_rfl) (by kernel_rfl) (by kernel_rfl) (fun _ _ _ h => h) (Or.inl ⟨by rfl, ?_⟩) (by assumption) ?_
                 rotate_left
                 (intro w hSw
                  (try dsimp only at hSw)
                  (go_simp <;> with_reducible rfl)))
            try simp only [Act.put, List.getElem_toArray, List.getElem_cons_zero, List.getElem_cons_succ, List.setIfInBounds_toArray, List.set_cons_zero, List.set_cons_succ]
            first
              | (refine wpAnyH_take (i := 3) (v := undef) rfl (by kernel_rfl) (by kernel_rfl) (by kernel_rfl) (fun _ _ _ h => h) (Or.inr ⟨by rfl, rfl⟩) (by assumption) ?_)
              | (refine wpAnyH_take (i := 3) (v := ?_) rfl (by kernel_rfl) (by kernel_rfl) (by kernel_rfl) (fun _ _ _ h => h) (Or.inl ⟨by rfl, ?_⟩) (by assumption) ?_
                 rotate_left
                 (intro w hSw
                  (try dsimp only at hSw)
                  (go_simp <;> with_reducible rfl)))
            try simp only [Act.put, List.getElem_toArray, List.getElem_cons_zero, List.getElem_cons_succ, List.setIfInBounds_toArray, List.set_cons_zero, List.set_cons_succ]
            first
              | (refine wpAnyH_take (i := 5) (v := undef) rfl (by kernel_rfl) (by kernel_rfl) (by kernel_rfl) (fun _ _ _ h => h) (Or.inr ⟨by rfl, rfl⟩) (by assumption) ?_)
              | (refine wpAnyH_take (i := 5) (v := ?_) rfl (by kernel_rfl) (by kernel_rfl) (by kernel_rfl) (fun _ _ _ h => h) (Or.inl ⟨by rfl, ?_⟩) (by assumption) ?_
                 rotate_left
                 (intro w hSw
                  (try dsimp only at hSw)
                  (go_simp <;> with_reducible rfl)))
            try simp only [Act.put, List.getElem_toArray, List.getElem_cons_zero, List.getElem_cons_succ, List.setIfInBounds_toArray, List.set_cons_zero, List.set_cons_succ]
            first
              | (refine wpAnyH_take (i := 6) (v := undef) rfl (by kernel_rfl) (by kernel_rfl) (by kernel_rfl) (fun _ _ _ h => h) (Or.inr ⟨by rfl, rfl⟩) (by assumption) ?_)
              | (refine wpAnyH_take (i := 6) (v := ?_) rfl (by kernel_rfl) (by kernel_rfl) (by kernel_rfl) (fun _ _ _ h => h) (Or.inl ⟨by rfl, ?_⟩) (by assumption) ?_
                 rotate_left
                 (intro w hSw
                  (try dsimp only at hSw)
                  (go_simp <;> with_reducible rfl)))
            try simp only [Act.put, List.getElem_toArray, List.getElem_cons_zero, List.getElem_cons_succ, List.setIfInBounds_toArray, List.set_cons_zero, List.set_cons_succ]
            first
              | (refine wpAnyH_take (i := 8) (v := undef) rfl (by kernel_rfl) (by kernel_rfl) (by kernel_rfl) (fun _ _ _ h => h) (Or.inr ⟨by rfl, rfl⟩) (by assumption) ?_)
              | (refine wpAnyH_take (i := 8) (v := ?_) rfl (by kernel_rfl) (by kernel_rfl) (by kernel_rfl) (fun _ _ _ h => h) (Or.inl ⟨by rfl, ?_⟩) (by assumption) ?_
                 rotate_left
                 (intro w hSw
                  (try dsimp only at hSw)
                  (go_simp <;> with_reducible rfl)))
            try simp only [Act.put, List.getElem_toArray, List.getElem_cons_zero, List.getElem_cons_succ, List.setIfInBounds_toArray, List.set_cons_zero, List.set_cons_succ]
            first
              | (refine wpAnyH_take (i := 9) (v := undef) rfl (by kernel_rfl) (by kernel_rfl) (by kernel_rfl) (fun _ _ _ h => h) (Or.inr ⟨by rfl, rfl⟩) (by assumption) ?_)
              | (refine wpAnyH_take (i := 9) (v := ?_) rfl (by kernel_rfl) (by kernel_rfl) (by kernel_rfl) (fun _ _ _ h => h) (Or.inl ⟨by rfl, ?_⟩) (by assumption) ?_
                 rotate_left
                 (intro w hSw
                  (try dsimp only at hSw)
                  (go_simp <;> with_reducible rfl)))
            try simp only [Act.put, List.getElem_toArray, List.getElem_cons_zero, List.getElem_cons_succ, List.setIfInBounds_toArray, List.set_cons_zero, List.set_cons_succ]
            first
              | (refine wpAnyH_take (i := 11) (v := undef) rfl (by kernel_rfl) (by kernel_rfl) (by kernel_rfl) (fun _ _ _ h => h) (Or.inr ⟨by rfl, rfl⟩) (by assumption) ?_)
              | (refine wpAnyH_take (i := 11) (v := ?_) rfl (by kernel_rfl) (by kernel_rfl) (by kernel_rfl) (fun _ _ _ h => h) (Or.inl ⟨by rfl, ?_⟩) (by assumption) ?_
                 rotate_left
                 (intro w hSw
                  (try dsimp only at hSw)
                  (go_simp <;> with_reducible rfl)))
            try simp only [Act.put, List.getElem_toArray, List.getElem_cons_zero, List.getElem_cons_succ, List.setIfInBounds_toArray, List.set_cons_zero, List.set_cons_succ]
            first
              | (refine wpAnyH_take (i := 12) (v := undef) rfl (by kernel_rfl) (by kernel_rfl) (by kernel_rfl) (fun _ _ _ h => h) (Or.inr ⟨by rfl, rfl⟩) (by assumption) ?_)
              | (refine wpAnyH_take (i := 12) (v := ?_) rfl (by kernel_rfl) (by kernel_rfl) (by kernel_rfl) (fun _ _ _ h => h) (Or.inl ⟨by rfl, ?_⟩) (by assumption) ?_
                 rotate_left
                 (intro w hSw
                  (try dsimp only at hSw)
                  (go_simp <;> with_reducible rfl)))
            try simp only [Act.put, List.getElem_toArray, List.getElem_cons_zero, List.getElem_cons_succ, List.setIfInBounds_toArray, List.set_cons_zero, List.set_cons_succ]
            refine wpAnyH_ready (rs := [4, 10]) (by kernel_rfl) (by simp) ?_
            refine AllReadyH.cons (i := 4) (o := _) rfl (fun K hK => ?_) ?_
            · go_simp
              refine hK.out _ _ (by first | exact b2 | exact d0 | exact hHeld) (fun hHeld => ?_)
              clear hK K
              try simp only [Act.put, List.getElem_toArray, List.getElem_cons_zero, List.getElem_cons_succ, List.setIfInBounds_toArray, List.set_cons_zero, List.set_cons_succ]
              refine wpAnyH_ready (rs := [7, 10]) (by kernel_rfl) (by simp) ?_
              refine AllReadyH.cons (i := 7) (o := _) rfl (fun K hK => ?_) ?_
              · go_simp
                refine (sp.out _ (hG4.out.drewn.pb x hx)).mono ?_
                rintro e w5 ⟨c, rfl, hc, h5, i5, g5⟩
                have d0 : w5.cell? ⟨D, 2, none⟩ = some (.int .i64 f2) := g5.cell hPD b2
                have d1 : w5.cell? ⟨A, x, none⟩ = some (.pointer (some ⟨P x, 0, none⟩)) := g5.cell hPA px
                have d2 : w5.cell? ⟨B, x, none⟩ = some (.pointer (some ⟨Q x, 0, none⟩)) := g5.cell hPB qx
                refine hK.out _ _ d0 (fun hHeld => ?_)
                clear hK K
                try simp only [Act.put, List.getElem_toArray, List.getElem_cons_zero, List.getElem_cons_succ, List.setIfInBounds_toArray, List.set_cons_zero, List.set_cons_succ]
                first
                  | (refine wpAnyH_take (i := 14) (v := undef) rfl (by kernel_rfl) (by kernel_rfl) (by kernel_rfl) (fun _ _ _ h => h) (Or.inr ⟨by rfl, rfl⟩) (by assumption) ?_)
                  | (refine wpAnyH_take (i := 14) (v := ?_) rfl (by kernel_rfl) (by kernel_rfl) (by kernel_rfl) (fun _ _ _ h => h) (Or.inl ⟨by rfl, ?_⟩) (by assumption) ?_
                     rotate_left
                     (intro w hSw
                      (try dsimp only at hSw)
                      (go_simp <;> with_reducible rfl)))
                try simp only [Act.put, List.getElem_toArray, List.getElem_cons_zero, List.getElem_cons_succ, List.setIfInBounds_toArray, List.set_cons_zero, List.set_cons_succ]
                refine wpAnyH_ready (rs := [10]) (by kernel_rfl) (by simp) ?_
                refine AllReadyH.cons (i := 10) (o := _) rfl (fun K hK => ?_) ?_
                rotate_left
                · exact AllReadyH.nil
                go_simp
                refine hK.out _ _ (by first | exact b2 | exact d0 | exact hHeld) (fun hHeld => ?_)
                clear hK K
                try simp only [Act.put, List.getElem_toArray, List.getElem_cons_zero, List.getElem_cons_succ, List.setIfInBounds_toArray, List.set_cons_zero, List.set_cons_succ]
                refine wpAnyH_ready (rs := [13]) (by kernel_rfl) (by simp) ?_
                refine AllReadyH.cons (i := 13) (o := _) rfl (fun K hK => ?_) ?_
                rotate_left
                · exact AllReadyH.nil
                go_simp
                refine (rs.out _ ((hG4.out.drewn.rb x hx).chg g5 hQP)).mono ?_
                rintro e w6 ⟨rfl, h6, i6, g6'⟩
                have g6 := Chg.of_grown g6'
                have d3 : w6.cell? ⟨D, 2, none⟩ = some (.int .i64 f2) := g6.cell hQD d0
                have fa := hide ((hG4.out.drewn.split hx hy hc (Nat.le_refl _) h5 i5 g5 h6 i6 g6))
                have fr0 : w6.frozen? ⟨A, y, none⟩ = false := (((hG4.out.drewn.a.chg g5 hPA).chg g6 hQA)).free y
                have fr1 : w6.frozen? ⟨B, y, none⟩ = false := (((hG4.out.drewn.b.chg g5 hPB).chg g6 hQB)).free y
                have cy0 := ((hG4.out.drewn.a.chg g5 hPA).chg g6 hQA).cell hy
                have cy1 := ((hG4.out.drewn.b.chg g5 hPB).chg g6 hQB).cell hy
                refine hK.out _ _ d3 (fun hHeld => ?_)
                clear hK K
                try simp only [Act.put, List.getElem_toArray, List.getElem_cons_zero, List.getElem_cons_succ, List.setIfInBounds_toArray, List.set_cons_zero, List.set_cons_succ]
                refine wpAnyH_ready (rs := [15]) (by kernel_rfl) (by simp) ?_
                refine AllReadyH.cons (i := 15) (o := _) rfl (fun K hK => ?_) ?_
                rotate_left
                · exact AllReadyH.nil
                go_simp
                refine hK.out _ _ ((World.cell?_setCell_far _ ⟨A, y, none⟩ ⟨D, 2, none⟩ _ hAD).trans d3) (fun hHeld => ?_)
                clear hK K
                try simp only [Act.put, List.getElem_toArray, List.getElem_cons_zero, List.getElem_cons_succ, List.setIfInBounds_toArray, List.set_cons_zero, List.set_cons_succ]
                first
                  | (refine wpAnyH_take (i := 16) (v := undef) rfl (by kernel_rfl) (by kernel_rfl) (by kernel_rfl) (fun _ _ _ h => h) (Or.inr ⟨by rfl, rfl⟩) (by assumption) ?_)
                  | (refine wpAnyH_take (i := 16) (v := ?_) rfl (by kernel_rfl) (by kernel_rfl) (by kernel_rfl) (fun _ _ _ h => h) (Or.inl ⟨by rfl, ?_⟩) (by assumption) ?_
                     rotate_left
                     (intro w hSw
                      (try dsimp only at hSw)
                      (go_simp <;> with_reducible rfl)))
                try simp only [Act.put, List.getElem_toArray, List.getElem_cons_zero, List.getElem_cons_succ, List.setIfInBounds_toArray, List.set_cons_zero, List.set_cons_succ]
                refine wpAnyH_ready (rs := [17]) (by kernel_rfl) (by simp) ?_
                refine AllReadyH.cons (i := 17) (o := _) rfl (fun K hK => ?_) ?_
                rotate_left
                · exact AllReadyH.nil
                have cz1 := (World.cell?_setCell_far w6 ⟨A, y, none⟩ ⟨B, y, none⟩ (.pointer (some ⟨c, 0, none⟩)) hAB).trans cy1
                have fz1 : (w6.setCell ⟨A, y, none⟩ (.pointer (some ⟨c, 0, none⟩))).frozen? ⟨B, y, none⟩ = false := by simpa using fr1
                go_simp
                refine hK.out _ _ ((World.cell?_setCell_far _ ⟨B, y, none⟩ ⟨D, 2, none⟩ _ hBD).trans ((World.cell?_setCell_far _ ⟨A, y, none⟩ ⟨D, 2, none⟩ _ hAD).trans d3)) (fun hHeld => ?_)
                clear hK K
                try simp only [Act.put, List.getElem_toArray, List.getElem_cons_zero, List.getElem_cons_succ, List.setIfInBounds_toArray, List.set_cons_zero, List.set_cons_succ]
                refine wpAnyH_done (by kernel_rfl) ?_ _
                have hG6 := fa
                clear fa sp rs h5 i5 g5 h6 i6 g6 g6' d0 d1 d2 d3 px py qx qy b0 b2 hG4 bdx cy0 cy1 fr0 fr1 hHeld
                generalize ((w6.setCell ⟨A, y, none⟩ (.pointer (some ⟨c, 0, none⟩))).setCell ⟨B, y, none⟩ (.pointer (some ⟨w5.heap.size, 0, none⟩))) = w7 at *
                have Z0 : (0 : Int) < 3 := by decide
                go_wp2_with fail
                refine wp_loop_rounds 4 ?_
                have tA := hG6.out.a.cell (x := 0) (by omega)
                have tB := hG6.out.b.cell (x := 0) (by omega)
                have sy := hide (fun n => same_yes _ _ _ _ _ (w7.drewN n) ((hG6.out.drewsN n).pb 0 (by omega)) ((hG6.out.drewsN n).rb 0 (by omega)))
                rw [rounds_succ]
                go_wp2_with fail
                go_quiet (first | (go_at_call 13; exact Calls.quiet_of (sy.out _)))
                have hG7 := hide (hG6.out.drewsN nq)
                clear tA tB sy hG6
                have hG6 := hG7
                clear hG7
                generalize w7.drewN nq = v0 at *
                go_wp2_with fail
                have tA := hG6.out.a.cell (x := 1) (by omega)
                have tB := hG6.out.b.cell (x := 1) (by omega)
                have sy := hide (fun n => same_yes _ _ _ _ _ (v0.drewN n) ((hG6.out.drewsN n).pb 1 (by omega)) ((hG6.out.drewsN n).rb 1 (by omega)))
                rw [rounds_succ]
                go_wp2_with fail
                go_quiet (first | (go_at_call 13; exact Calls.quiet_of (sy.out _)))
                have hG7 := hide (hG6.out.drewsN nq)
                clear tA tB sy hG6
                have hG6 := hG7
                clear hG7
                generalize v0.drewN nq = v1 at *
                go_wp2_with fail
                have tA := hG6.out.a.cell (x := 2) (by omega)
                have tB := hG6.out.b.cell (x := 2) (by omega)
                have sy := hide (fun n => same_yes _ _ _ _ _ (v1.drewN n) ((hG6.out.drewsN n).pb 2 (by omega)) ((hG6.out.drewsN n).rb 2 (by omega)))
                rw [rounds_succ]
                go_wp2_with fail
                go_quiet (first | (go_at_call 13; exact Calls.quiet_of (sy.out _)))
                have hG7 := hide (hG6.out.drewsN nq)
                clear tA tB sy hG6
                have hG6 := hG7
                clear hG7
                generalize v1.drewN nq = v2 at *
                go_wp2_with fail
                rw [rounds_succ]
                go_wp2_with fail
                go_roundw
                case rel => exact ⟨k + 1, _, _, _, _, _, by omega, by omega, by go_num, hG6⟩
                case measure => simp [intOf]; omega
              refine AllReadyH.cons (i := 10) (o := _) rfl (fun K hK => ?_) ?_
              rotate_left
              · exact AllReadyH.nil
              go_simp
              refine hK.out _ _ (by first | exact b2 | exact d0 | exact hHeld) (fun hHeld => ?_)
              clear hK K
              try simp only [Act.put, List.getElem_toArray, List.getElem_cons_zero, List.getElem_cons_succ, List.setIfInBounds_toArray, List.set_cons_zero, List.set_cons_succ]
              refine wpAnyH_ready (rs := [7]) (by kernel_rfl) (by simp) ?_
              refine AllReadyH.cons (i := 7) (o := _) rfl (fun K hK => ?_) ?_
              rotate_left
              · exact AllReadyH.nil
              go_simp
              refine (sp.out _ (hG4.out.drewn.pb x hx)).mono ?_
              rintro e w5 ⟨c, rfl, hc, h5, i5, g5⟩
              have d0 : w5.cell? ⟨D, 2, none⟩ = some (.int .i64 f2) := g5.cell hPD b2
              have d1 : w5.cell? ⟨A, x, none⟩ = some (.pointer (some ⟨P x, 0, none⟩)) := g5.cell hPA px
              have d2 : w5.cell? ⟨B, x, none⟩ = some (.pointer (some ⟨Q x, 0, none⟩)) := g5.cell hPB qx
              refine hK.out _ _ d0 (fun hHeld => ?_)
              clear hK K
              try simp only [Act.put, List.getElem_toArray, List.getElem_cons_zero, List.getElem_cons_succ, List.setIfInBounds_toArray, List.set_cons_zero, List.set_cons_succ]
              first
                | (refine wpAnyH_take (i := 14) (v := undef) rfl (by kernel_rfl) (by kernel_rfl) (by kernel_rfl) (fun _ _ _ h => h) (Or.inr ⟨by rfl, rfl⟩) (by assumption) ?_)
                | (refine wpAnyH_take (i := 14) (v := ?_) rfl (by kernel_rfl) (by kernel_rfl) (by kernel_rfl) (fun _ _ _ h => h) (Or.inl ⟨by rfl, ?_⟩) (by assumption) ?_
                   rotate_left
                   (intro w hSw
                    (try dsimp only at hSw)
                    (go_simp <;> with_reducible rfl)))
              try simp only [Act.put, List.getElem_toArray, List.getElem_cons_zero, List.getElem_cons_succ, List.setIfInBounds_toArray, List.set_cons_zero, List.set_cons_succ]
              refine wpAnyH_ready (rs := [13]) (by kernel_rfl) (by simp) ?_
              refine AllReadyH.cons (i := 13) (o := _) rfl (fun K hK => ?_) ?_
              rotate_left
              · exact AllReadyH.nil
              go_simp
              refine (rs.out _ ((hG4.out.drewn.rb x hx).chg g5 hQP)).mono ?_
              rintro e w6 ⟨rfl, h6, i6, g6'⟩
              have g6 := Chg.of_grown g6'
              have d3 : w6.cell? ⟨D, 2, none⟩ = some (.int .i64 f2) := g6.cell hQD d0
              have fa := hide ((hG4.out.drewn.split hx hy hc (Nat.le_refl _) h5 i5 g5 h6 i6 g6))
              have fr0 : w6.frozen? ⟨A, y, none⟩ = false := (((hG4.out.drewn.a.chg g5 hPA).chg g6 hQA)).free y
              have fr1 : w6.frozen? ⟨B, y, none⟩ = false := (((hG4.out.drewn.b.chg g5 hPB).chg g6 hQB)).free y
              have cy0 := ((hG4.out.drewn.a.chg g5 hPA).chg g6 hQA).cell hy
              have cy1 := ((hG4.out.drewn.b.chg g5 hPB).chg g6 hQB).cell hy
              refine hK.out _ _ d3 (fun hHeld => ?_)
              clear hK K
              try simp only [Act.put, List.getElem_toArray, List.getElem_cons_zero, List.getElem_cons_succ, List.setIfInBounds_toArray, List.set_cons_zero, List.set_cons_succ]
              refine wpAnyH_ready (rs := [15]) (by kernel_rfl) (by simp) ?_
              refine AllReadyH.cons (i := 15) (o := _) rfl (fun K hK => ?_) ?_
              rotate_left
              · exact AllReadyH.nil
              go_simp
              refine hK.out _ _ ((World.cell?_setCell_far _ ⟨A, y, none⟩ ⟨D, 2, none⟩ _ hAD).trans d3) (fun hHeld => ?_)
              clear hK K
              try simp only [Act.put, List.getElem_toArray, List.getElem_cons_zero, List.getElem_cons_succ, List.setIfInBounds_toArray, List.set_cons_zero, List.set_cons_succ]
              first
                | (refine wpAnyH_take (i := 16) (v := undef) rfl (by kernel_rfl) (by kernel_rfl) (by kernel_rfl) (fun _ _ _ h => h) (Or.inr ⟨by rfl, rfl⟩) (by assumption) ?_)
                | (refine wpAnyH_take (i := 16) (v := ?_) rfl (by kernel_rfl) (by kernel_rfl) (by kernel_rfl) (fun _ _ _ h => h) (Or.inl ⟨by rfl, ?_⟩) (by assumption) ?_
                   rotate_left
                   (intro w hSw
                    (try dsimp only at hSw)
                    (go_simp <;> with_reducible rfl)))
              try simp only [Act.put, List.getElem_toArray, List.getElem_cons_zero, List.getElem_cons_succ, List.setIfInBounds_toArray, List.set_cons_zero, List.set_cons_succ]
              refine wpAnyH_ready (rs := [17]) (by kernel_rfl) (by simp) ?_
              refine AllReadyH.cons (i := 17) (o := _) rfl (fun K hK => ?_) ?_
              rotate_left
              · exact AllReadyH.nil
              have cz1 := (World.cell?_setCell_far w6 ⟨A, y, none⟩ ⟨B, y, none⟩ (.pointer (some ⟨c, 0, none⟩)) hAB).trans cy1
              have fz1 : (w6.setCell ⟨A, y, none⟩ (.pointer (some ⟨c, 0, none⟩))).frozen? ⟨B, y, none⟩ = false := by simpa using fr1
              go_simp
              refine hK.out _ _ ((World.cell?_setCell_far _ ⟨B, y, none⟩ ⟨D, 2, none⟩ _ hBD).trans ((World.cell?_setCell_far _ ⟨A, y, none⟩ ⟨D, 2, none⟩ _ hAD).trans d3)) (fun hHeld => ?_)
              clear hK K
              try simp only [Act.put, List.getElem_toArray, List.getElem_cons_zero, List.getElem_cons_succ, List.setIfInBounds_toArray, List.set_cons_zero, List.set_cons_succ]
              refine wpAnyH_done (by kernel_rfl) ?_ _
              have hG6 := fa
              clear fa sp rs h5 i5 g5 h6 i6 g6 g6' d0 d1 d2 d3 px py qx qy b0 b2 hG4 bdx cy0 cy1 fr0 fr1 hHeld
              generalize ((w6.setCell ⟨A, y, none⟩ (.pointer (some ⟨c, 0, none⟩))).setCell ⟨B, y, none⟩ (.pointer (some ⟨w5.heap.size, 0, none⟩))) = w7 at *
              have Z0 : (0 : Int) < 3 := by decide
              go_wp2_with fail
              refine wp_loop_rounds 4 ?_
              have tA := hG6.out.a.cell (x := 0) (by omega)
              have tB := hG6.out.b.cell (x := 0) (by omega)
              have sy := hide (fun n => same_yes _ _ _ _ _ (w7.drewN n) ((hG6.out.drewsN n).pb 0 (by omega)) ((hG6.out.drewsN n).rb 0 (by omega)))
              rw [rounds_succ]
              go_wp2_with fail
              go_quiet (first | (go_at_call 13; exact Calls.quiet_of (sy.out _)))
              have hG7 := hide (hG6.out.drewsN nq)
              clear tA tB sy hG6
              have hG6 := hG7
              clear hG7
              generalize w7.drewN nq = v0 at *
              go_wp2_with fail
              have tA := hG6.out.a.cell (x := 1) (by omega)
              have tB := hG6.out.b.cell (x := 1) (by omega)
              have sy := hide (fun n => same_yes _ _ _ _ _ (v0.drewN n) ((hG6.out.drewsN n).pb 1 (by omega)) ((hG6.out.drewsN n).rb 1 (by omega)))
              rw [rounds_succ]
              go_wp2_with fail
              go_quiet (first | (go_at_call 13; exact Calls.quiet_of (sy.out _)))
              have hG7 := hide (hG6.out.drewsN nq)
              clear tA tB sy hG6
              have hG6 := hG7
              clear hG7
              generalize v0.drewN nq = v1 at *
              go_wp2_with fail
              have tA := hG6.out.a.cell (x := 2) (by omega)
              have tB := hG6.out.b.cell (x := 2) (by omega)
              have sy := hide (fun n => same_yes _ _ _ _ _ (v1.drewN n) ((hG6.out.drewsN n).pb 2 (by omega)) ((hG6.out.drewsN n).rb 2 (by omega)))
              rw [rounds_succ]
              go_wp2_with fail
              go_quiet (first | (go_at_call 13; exact Calls.quiet_of (sy.out _)))
              have hG7 := hide (hG6.out.drewsN nq)
              clear tA tB sy hG6
              have hG6 := hG7
              clear hG7
              generalize v1.drewN nq = v2 at *
              go_wp2_with fail
              rw [rounds_succ]
              go_wp2_with fail
              go_roundw
              case rel => exact ⟨k + 1, _, _, _, _, _, by omega, by omega, by go_num, hG6⟩
              case measure => simp [intOf]; omega
            refine AllReadyH.cons (i := 10) (o := _) rfl (fun K hK => ?_) ?_
            rotate_left
            · exact AllReadyH.nil
            go_simp
            refine hK.out _ _ (by first | exact b2 | exact d0 | exact hHeld) (fun hHeld => ?_)
            clear hK K
            try simp only [Act.put, List.getElem_toArray, List.getElem_cons_zero, List.getElem_cons_succ, List.setIfInBounds_toArray, List.set_cons_zero, List.set_cons_succ]
            refine wpAnyH_ready (rs := [4]) (by kernel_rfl) (by simp) ?_
            refine AllReadyH.cons (i := 4) (o := _) rfl (fun K hK => ?_) ?_
            rotate_left
            · exact AllReadyH.nil
            go_simp
            refine hK.out _ _ (by first | exact b2 | exact d0 | exact hHeld) (fun hHeld => ?_)
            clear hK K
            try simp only [Act.put, List.getElem_toArray, List.getElem_cons_zero, List.getElem_cons_succ, List.setIfInBounds_toArray, List.set_cons_zero, List.set_cons_succ]
            refine wpAnyH_ready (rs := [7]) (by kernel_rfl) (by simp) ?_
            refine AllReadyH.cons (i := 7) (o := _) rfl (fun K hK => ?_) ?_
            rotate_left
            · exact AllReadyH.nil
            go_simp
            refine (sp.out _ (hG4.out.drewn.pb x hx)).mono ?_
            rintro e w5 ⟨c, rfl, hc, h5, i5, g5⟩
            have d0 : w5.cell? ⟨D, 2, none⟩ = some (.int .i64 f2) := g5.cell hPD b2
            have d1 : w5.cell? ⟨A, x, none⟩ = some (.pointer (some ⟨P x, 0, none⟩)) := g5.cell hPA px
            have d2 : w5.cell? ⟨B, x, none⟩ = some (.pointer (some ⟨Q x, 0, none⟩)) := g5.cell hPB qx
            refine hK.out _ _ d0 (fun hHeld => ?_)
            clear hK K
            try simp only [Act.put, List.getElem_toArray, List.getElem_cons_zero, List.getElem_cons_succ, List.setIfInBounds_toArray, List.set_cons_zero, List.set_cons_succ]
            first
              | (refine wpAnyH_take (i := 14) (v := undef) rfl (by kernel_rfl) (by kernel_rfl) (by kernel_rfl) (fun _ _ _ h => h) (Or.inr ⟨by rfl, rfl⟩) (by assumption) ?_)
              | (refine wpAnyH_take (i := 14) (v := ?_) rfl (by kernel_rfl) (by kernel_rfl) (by kernel_rfl) (fun _ _ _ h => h) (Or.inl ⟨by rfl, ?_⟩) (by assumption) ?_
                 rotate_left
                 (intro w hSw
                  (try dsimp only at hSw)
                  (go_simp <;> with_reducible rfl)))
            try simp only [Act.put, List.getElem_toArray, List.getElem_cons_zero, List.getElem_cons_succ, List.setIfInBounds_toArray, List.set_cons_zero, List.set_cons_succ]
            refine wpAnyH_ready (rs := [13]) (by kernel_rfl) (by simp) ?_
            refine AllReadyH.cons (i := 13) (o := _) rfl (fun K hK => ?_) ?_
            rotate_left
            · exact AllReadyH.nil
            go_simp
            refine (rs.out _ ((hG4.out.drewn.rb x hx).chg g5 hQP)).mono ?_
            rintro e w6 ⟨rfl, h6, i6, g6'⟩
            have g6 := Chg.of_grown g6'
            have d3 : w6.cell? ⟨D, 2, none⟩ = some (.int .i64 f2) := g6.cell hQD d0
            have fa := hide ((hG4.out.drewn.split hx hy hc (Nat.le_refl _) h5 i5 g5 h6 i6 g6))
            have fr0 : w6.frozen? ⟨A, y, none⟩ = false := (((hG4.out.drewn.a.chg g5 hPA).chg g6 hQA)).free y
            have fr1 : w6.frozen? ⟨B, y, none⟩ = false := (((hG4.out.drewn.b.chg g5 hPB).chg g6 hQB)).free y
            have cy0 := ((hG4.out.drewn.a.chg g5 hPA).chg g6 hQA).cell hy
            have cy1 := ((hG4.out.drewn.b.chg g5 hPB).chg g6 hQB).cell hy
            refine hK.out _ _ d3 (fun hHeld => ?_)
            clear hK K
            try simp only [Act.put, List.getElem_toArray, List.getElem_cons_zero, List.getElem_cons_succ, List.setIfInBounds_toArray, List.set_cons_zero, List.set_cons_succ]
            refine wpAnyH_ready (rs := [15]) (by kernel_rfl) (by simp) ?_
            refine AllReadyH.cons (i := 15) (o := _) rfl (fun K hK => ?_) ?_
            rotate_left
            · exact AllReadyH.nil
            go_simp
            refine hK.out _ _ ((World.cell?_setCell_far _ ⟨A, y, none⟩ ⟨D, 2, none⟩ _ hAD).trans d3) (fun hHeld => ?_)
            clear hK K
            try simp only [Act.put, List.getElem_toArray, List.getElem_cons_zero, List.getElem_cons_succ, List.setIfInBounds_toArray, List.set_cons_zero, List.set_cons_succ]
            first
              | (refine wpAnyH_take (i := 16) (v := undef) rfl (by kernel_rfl) (by kernel_rfl) (by kernel_rfl) (fun _ _ _ h => h) (Or.inr ⟨by rfl, rfl⟩) (by assumption) ?_)
              | (refine wpAnyH_take (i := 16) (v := ?_) rfl (by kernel_rfl) (by kernel_rfl) (by kernel_rfl) (fun _ _ _ h => h) (Or.inl ⟨by rfl, ?_⟩) (by assumption) ?_
                 rotate_left
                 (intro w hSw
                  (try dsimp only at hSw)
                  (go_simp <;> with_reducible rfl)))
            try simp only [Act.put, List.getElem_toArray, List.getElem_cons_zero, List.getElem_cons_succ, List.setIfInBounds_toArray, List.set_cons_zero, List.set_cons_succ]
            refine wpAnyH_ready (rs := [17]) (by kernel_rfl) (by simp) ?_
            refine AllReadyH.cons (i := 17) (o := _) rfl (fun K hK => ?_) ?_
            rotate_left
            · exact AllReadyH.nil
            have cz1 := (World.cell?_setCell_far w6 ⟨A, y, none⟩ ⟨B, y, none⟩ (.pointer (some ⟨c, 0, none⟩)) hAB).trans cy1
            have fz1 : (w6.setCell ⟨A, y, none⟩ (.pointer (some ⟨c, 0, none⟩))).frozen? ⟨B, y, none⟩ = false := by simpa using fr1
            go_simp
            refine hK.out _ _ ((World.cell?_setCell_far _ ⟨B, y, none⟩ ⟨D, 2, none⟩ _ hBD).trans ((World.cell?_setCell_far _ ⟨A, y, none⟩ ⟨D, 2, none⟩ _ hAD).trans d3)) (fun hHeld => ?_)
            clear hK K
            try simp only [Act.put, List.getElem_toArray, List.getElem_cons_zero, List.getElem_cons_succ, List.setIfInBounds_toArray, List.set_cons_zero, List.set_cons_succ]
            refine wpAnyH_done (by kernel_rfl) ?_ _
            have hG6 := fa
            clear fa sp rs h5 i5 g5 h6 i6 g6 g6' d0 d1 d2 d3 px py qx qy b0 b2 hG4 bdx cy0 cy1 fr0 fr1 hHeld
            generalize ((w6.setCell ⟨A, y, none⟩ (.pointer (some ⟨c, 0, none⟩))).setCell ⟨B, y, none⟩ (.pointer (some ⟨w5.heap.size, 0, none⟩))) = w7 at *
            have Z0 : (0 : Int) < 3 := by decide
            go_wp2_with fail
            refine wp_loop_rounds 4 ?_
            have tA := hG6.out.a.cell (x := 0) (by omega)
            have tB := hG6.out.b.cell (x := 0) (by omega)
            have sy := hide (fun n => same_yes _ _ _ _ _ (w7.drewN n) ((hG6.out.drewsN n).pb 0 (by omega)) ((hG6.out.drewsN n).rb 0 (by omega)))
            rw [rounds_succ]
            go_wp2_with fail
            go_quiet (first | (go_at_call 13; exact Calls.quiet_of (sy.out _)))
            have hG7 := hide (hG6.out.drewsN nq)
            clear tA tB sy hG6
            have hG6 := hG7
            clear hG7
            generalize w7.drewN nq = v0 at *
            go_wp2_with fail
            have tA := hG6.out.a.cell (x := 1) (by omega)
            have tB := hG6.out.b.cell (x := 1) (by omega)
            have sy := hide (fun n => same_yes _ _ _ _ _ (v0.drewN n) ((hG6.out.drewsN n).pb 1 (by omega)) ((hG6.out.drewsN n).rb 1 (by omega)))
            rw [rounds_succ]
            go_wp2_with fail
            go_quiet (first | (go_at_call 13; exact Calls.quiet_of (sy.out _)))
            have hG7 := hide (hG6.out.drewsN nq)
            clear tA tB sy hG6
            have hG6 := hG7
            clear hG7
            generalize v0.drewN nq = v1 at *
            go_wp2_with fail
            have tA := hG6.out.a.cell (x := 2) (by omega)
            have tB := hG6.out.b.cell (x := 2) (by omega)
            have sy := hide (fun n => same_yes _ _ _ _ _ (v1.drewN n) ((hG6.out.drewsN n).pb 2 (by omega)) ((hG6.out.drewsN n).rb 2 (by omega)))
            rw [rounds_succ]
            go_wp2_with fail
            go_quiet (first | (go_at_call 13; exact Calls.quiet_of (sy.out _)))
            have hG7 := hide (hG6.out.drewsN nq)
            clear tA tB sy hG6
            have hG6 := hG7
            clear hG7
            generalize v1.drewN nq = v2 at *
            go_wp2_with fail
            rw [rounds_succ]
            go_wp2_with fail
            go_roundw
            case rel => exact ⟨k + 1, _, _, _, _, _, by omega, by omega, by go_num, hG6⟩
            case measure => simp [intOf]; omega
          · have k1 := Bool.eq_false_iff.2 k1
            have m1 : ∀ o, (w4.drew.alloc o).cell? ⟨A, x, none⟩ = some (.pointer (some ⟨P x, 0, none⟩)) := fun o => (World.cell?_alloc_lt w4.drew o ⟨A, x, none⟩ hG4.out.a.lt).trans px
            have m2 : ∀ o, (w4.drew.alloc o).cell? ⟨A, y, none⟩ = some (.pointer (some ⟨P y, 0, none⟩)) := fun o => (World.cell?_alloc_lt w4.drew o ⟨A, y, none⟩ hG4.out.a.lt).trans py
            have m3 : ∀ v, (w4.drew.alloc (.cells #[v] 24)).cell? ⟨w4.drew.heap.size, 0, none⟩ = some v := fun v => cell_new w4.drew v
            by_cases hxy : x = y
            · subst hxy
              go_wp2_with fail
              go_region_held3 (fun w' => w'.cell? ⟨A, x, none⟩ = some (.pointer (some ⟨P x, 0, none⟩)))
                (go_keep)
                (first
                  | (go_at_call 17; refine (pBack_same (P x) _ _ _ _ (by simp)).mono ?_; rintro e w5 ⟨rfl, hw5⟩; have d1 : w5.cell? ⟨A, x, none⟩ = some (.pointer (some ⟨P x, 0, none⟩)) := (by rw [← hw5]; exact m1 _); have hG6 := hide (hG4.out.drewn.alloced hw5); clear hw5))
              clear d1 px py qx qy m1 m2 m3 b0 b2 hG4 bdx
              have Z0 : (0 : Int) < 3 := by decide
              go_wp2_with fail
              refine wp_loop_rounds 4 ?_
              have tA := hG6.out.a.cell (x := 0) (by omega)
              have tB := hG6.out.b.cell (x := 0) (by omega)
              have sy := hide (fun n => same_yes _ _ _ _ _ (w5.drewN n) ((hG6.out.drewsN n).pb 0 (by omega)) ((hG6.out.drewsN n).rb 0 (by omega)))
              rw [rounds_succ]
              go_wp2_with fail
              go_quiet (first | (go_at_call 13; exact Calls.quiet_of (sy.out _)))
              have hG7 := hide (hG6.out.drewsN nq)
              clear tA tB sy hG6
              have hG6 := hG7
              clear hG7
              generalize w5.drewN nq = v0 at *
              go_wp2_with fail
              have tA := hG6.out.a.cell (x := 1) (by omega)
              have tB := hG6.out.b.cell (x := 1) (by omega)
              have sy := hide (fun n => same_yes _ _ _ _ _ (v0.drewN n) ((hG6.out.drewsN n).pb 1 (by omega)) ((hG6.out.drewsN n).rb 1 (by omega)))
              rw [rounds_succ]
              go_wp2_with fail
              go_quiet (first | (go_at_call 13; exact Calls.quiet_of (sy.out _)))
              have hG7 := hide (hG6.out.drewsN nq)
              clear tA tB sy hG6
              have hG6 := hG7
              clear hG7
              generalize v0.drewN nq = v1 at *
              go_wp2_with fail
              have tA := hG6.out.a.cell (x := 2) (by omega)
              have tB := hG6.out.b.cell (x := 2) (by omega)
              have sy := hide (fun n => same_yes _ _ _ _ _ (v1.drewN n) ((hG6.out.drewsN n).pb 2 (by omega)) ((hG6.out.drewsN n).rb 2 (by omega)))
              rw [rounds_succ]
              go_wp2_with fail
              go_quiet (first | (go_at_call 13; exact Calls.quiet_of (sy.out _)))
              have hG7 := hide (hG6.out.drewsN nq)
              clear tA tB sy hG6
              have hG6 := hG7
              clear hG7
              generalize v1.drewN nq = v2 at *
              go_wp2_with fail
              rw [rounds_succ]
              go_wp2_with fail
              go_roundw
              case rel => exact ⟨k + 1, _, _, _, _, _, by omega, by omega, by go_num, hG6⟩
              case measure => simp [intOf]; omega

            · have hne : ((x : Int) != (y : Int)) = true := by simp; omega
              have bdy := hG4.out.bd hy
              have hpp := hG4.out.pp x y hx hy hxy
              have hqq := hG4.out.qq x y hx hy hxy
              have hPA2 : ¬ (A = P x ∨ A = P y) := fun e => e.elim hPA (fun e => hG4.out.pa y hy e.symm)
              have hPB2 : ¬ (B = P x ∨ B = P y) := fun e => e.elim hPB (fun e => hG4.out.pB y hy e.symm)
              have hQA2 : ¬ (B = Q x ∨ B = Q y) := fun e => e.elim hQB (fun e => hG4.out.qB y hy e.symm)
              have hQx : ¬ (Q x = P x ∨ Q x = P y) := fun e => e.elim hQP (fun e => hG4.out.pq y x hy hx e.symm)
              have hQy : ¬ (Q y = P x ∨ Q y = P y) := fun e => e.elim (fun e => hG4.out.pq x y hx hy e.symm) (fun e => hG4.out.pq y y hy hy e.symm)
              have rb := hide (fun w' h1 h2 => refBack (Q x) (Q y) hqq (l x) (u x) (l y) (u y) (d x) (d y) w' h1 h2 (by omega) (by omega) (by omega) (by omega) (by omega) (by omega))
              have sb := hide (fun w' g hw h1 h2 h3 => pBack_other (P x) (P y) g 0 1 (l x) (u x) (l y) (u y) (d x) (d y) w' hpp h1 h2 h3 ⟨hw, (by omega)⟩ (by omega) (by omega) (by omega))
              go_wp2_with fail
              go_region_held3 (fun w' => w'.cell? ⟨A, x, none⟩ = some (.pointer (some ⟨P x, 0, none⟩)) ∧ w'.cell? ⟨A, y, none⟩ = some (.pointer (some ⟨P y, 0, none⟩)))
                (go_keep)
                (first
                  | (go_at_call 17; refine (sb.out _ _ (by omega) ((hG4.out.drewn.alloced rfl).pb x hx) ((hG4.out.drewn.alloced rfl).pb y hy) (m3 _)).mono ?_; rintro e w5 ⟨rfl, h5, i5, g5⟩; have d1 : w5.cell? ⟨A, x, none⟩ = some (.pointer (some ⟨P x, 0, none⟩)) := g5.cell hPA2 (m1 _); have d2 : w5.cell? ⟨A, y, none⟩ = some (.pointer (some ⟨P y, 0, none⟩)) := g5.cell hPA2 (m2 _)))
              have hG5 := hide (hG4.out.drewn.alloced (rfl : (w4.drew.alloc (.cells #[.pointer (some ⟨P y, 0, none⟩)] 24)) = _))
              have n1 : w5.cell? ⟨B, x, none⟩ = some (.pointer (some ⟨Q x, 0, none⟩)) := g5.cell hPB2 (hG5.out.b.cell hx)
              have n2 : w5.cell? ⟨B, y, none⟩ = some (.pointer (some ⟨Q y, 0, none⟩)) := g5.cell hPB2 (hG5.out.b.cell hy)
              have r1 := hide ((hG5.out.rb x hx).chg g5 hQx)
              have r2 := hide ((hG5.out.rb y hy).chg g5 hQy)
              have H5 := hide h5
              have I5 := hide i5
              have G5 := hide g5
              clear d1 d2 px py qx qy m1 m2 m3 b0 b2 h5 i5 g5
              go_wp2_with fail
              go_region_held3 (fun w' => w'.cell? ⟨B, x, none⟩ = some (.pointer (some ⟨Q x, 0, none⟩)) ∧ w'.cell? ⟨B, y, none⟩ = some (.pointer (some ⟨Q y, 0, none⟩)))
                (go_keep)
                (first
                  | (go_at_call 20; refine (rb.out w5.drew r1.out r2.out).mono ?_; rintro e w6 ⟨rfl, h6, i6, g6⟩; have d1 : w6.cell? ⟨B, x, none⟩ = some (.pointer (some ⟨Q x, 0, none⟩)) := g6.cell hQA2 n1; have d2 : w6.cell? ⟨B, y, none⟩ = some (.pointer (some ⟨Q y, 0, none⟩)) := g6.cell hQA2 n2))
              have hG6 := hide (hG5.out.back (w1 := w5.drew) hx hy hxy H5.out I5.out G5.out.drew h6 i6 g6)
              clear d1 d2 n1 n2 r1 r2 H5 I5 G5 hG5 hG4 h6 i6 g6 bdx bdy rb sb
              have Z0 : (0 : Int) < 3 := by decide
              go_wp2_with fail
              refine wp_loop_rounds 4 ?_
              have tA := hG6.out.a.cell (x := 0) (by omega)
              have tB := hG6.out.b.cell (x := 0) (by omega)
              have sy := hide (fun n => same_yes _ _ _ _ _ (w6.drewN n) ((hG6.out.drewsN n).pb 0 (by omega)) ((hG6.out.drewsN n).rb 0 (by omega)))
              rw [rounds_succ]
              go_wp2_with fail
              go_quiet (first | (go_at_call 13; exact Calls.quiet_of (sy.out _)))
              have hG7 := hide (hG6.out.drewsN nq)
              clear tA tB sy hG6
              have hG6 := hG7
              clear hG7
              generalize w6.drewN nq = v0 at *
              go_wp2_with fail
              have tA := hG6.out.a.cell (x := 1) (by omega)
              have tB := hG6.out.b.cell (x := 1) (by omega)
              have sy := hide (fun n => same_yes _ _ _ _ _ (v0.drewN n) ((hG6.out.drewsN n).pb 1 (by omega)) ((hG6.out.drewsN n).rb 1 (by omega)))
              rw [rounds_succ]
              go_wp2_with fail
              go_quiet (first | (go_at_call 13; exact Calls.quiet_of (sy.out _)))
              have hG7 := hide (hG6.out.drewsN nq)
              clear tA tB sy hG6
              have hG6 := hG7
              clear hG7
              generalize v0.drewN nq = v1 at *
              go_wp2_with fail
              have tA := hG6.out.a.cell (x := 2) (by omega)
              have tB := hG6.out.b.cell (x := 2) (by omega)
              have sy := hide (fun n => same_yes _ _ _ _ _ (v1.drewN n) ((hG6.out.drewsN n).pb 2 (by omega)) ((hG6.out.drewsN n).rb 2 (by omega)))
              rw [rounds_succ]
              go_wp2_with fail
              go_quiet (first | (go_at_call 13; exact Calls.quiet_of (sy.out _)))
              have hG7 := hide (hG6.out.drewsN nq)
              clear tA tB sy hG6
              have hG6 := hG7
              clear hG7
              generalize v1.drewN nq = v2 at *
              go_wp2_with fail
              rw [rounds_succ]
              go_wp2_with fail
              go_roundw
              case rel => exact ⟨k + 1, _, _, _, _, _, by omega, by omega, by go_num, hG6⟩
              case measure => simp [intOf]; omega
      · go_wp2_with fail
        refine (known_any _).mono ?_
        rintro e wk ⟨rfl, gk⟩
        have F := hide (plays_end hG.out gk)
        clear gk
        go_wp2_with fail
        go_ret
        exact ⟨rfl, F.out⟩
    · go_wp2_with fail
      refine (known_any _).mono ?_
      rintro e wk ⟨rfl, gk⟩
      have F := hide (plays_end hG.out gk)
      clear gk
      go_wp2_with fail
      go_ret
      exact ⟨rfl, F.out⟩
set_option maxRecDepth 100000 in
set_option maxHeartbeats 8000000 in
theorem plays_zero (n : Int) (a : Addr) (cap : Nat) (h3 : cap ≤ 9223372036854775807) (w : World) :
    Calls Try.prog 5 #[.int .i64 n, .slice (some a) 0 cap] w fun e w' => e = .returned (.bool true) ∧ Below w.heap.size w w' := by
  go_enter Try.func5, Try.ntmps5
  go_wp2_with fail
  have hbd := mod_bd n 1000000 (by omega) (by omega)
  generalize wrap64 ((IntKind.u64.wrap n).tmod 1000000) = m at *
  obtain ⟨hm0, hm1⟩ := hbd
  refine (pNew_at m m (Or.inr ⟨hm0, rfl⟩) _).mono ?_
  rintro e w1 ⟨rfl, p1, g1⟩
  go_wp2_with fail
  refine (pNew_at 7 7 (Or.inr ⟨by omega, rfl⟩) _).mono ?_
  rintro e w2 ⟨rfl, p2, g2⟩
  go_wp2_with fail
  refine (pNew_at 0 0 (Or.inr ⟨by omega, rfl⟩) _).mono ?_
  rintro e w3 ⟨rfl, p3, g3⟩
  go_wp2_with fail
  refine (refNew_at _ hm0 _).mono ?_
  rintro e w4 ⟨rfl, hw4⟩
  go_wp2_with fail
  refine (refNew_at _ (by omega) _).mono ?_
  rintro e w5 ⟨rfl, hw5⟩
  go_wp2_with fail
  refine (refNew_at _ (by omega) _).mono ?_
  rintro e w6 ⟨rfl, hw6⟩
  go_wp2_with fail
  generalize hwa : w3.heap.size = A at *
  have st := hide (plays_start w w1 w2 w3 m hm0 hm1 p1 g1 p2 g2 p3 g3 A hwa)
  generalize ((((w3.alloc (.cells #[.pointer (some ⟨w.heap.size, 0, none⟩), .pointer (some ⟨w1.heap.size, 0, none⟩), .pointer (some ⟨w2.heap.size, 0, none⟩)] 36)).alloc
      (.cells #[.int .i64 m, .int .i64 0, .bool false] 63)).alloc (.cells #[.int .i64 7, .int .i64 0, .bool false] 63)).alloc (.cells #[.int .i64 0, .int .i64 0, .bool false] 63)).alloc
      (.cells #[.pointer (some ⟨A + 1, 0, none⟩), .pointer (some ⟨A + 1 + 1, 0, none⟩), .pointer (some ⟨A + 1 + 1 + 1, 0, none⟩)] 37) = W at *
  clear p1 g1 p2 g2 p3 g3 hw4 hw5 hw6 hwa
  generalize A + 1 + 1 + 1 + 1 = B at *
  refine wp_loop_rounds 1 ?_
  rw [rounds_succ]
  go_wp2_with fail
  refine (known_any _).mono ?_
  rintro e wk ⟨rfl, gk⟩
  have F := hide (plays_end st.out gk)
  clear gk
  go_wp2_with fail
  go_ret
  exact ⟨rfl, F.out⟩

set_option maxRecDepth 100000 in
set_option maxHeartbeats 8000000 in
theorem plays_nil (n : Int) (w : World) :
    Calls Try.prog 5 #[.int .i64 n, .slice none 0 0] w fun e w' => e = .returned (.bool true) ∧ Below w.heap.size w w' := by
  go_enter Try.func5, Try.ntmps5
  go_wp2_with fail
  have hbd := mod_bd n 1000000 (by omega) (by omega)
  generalize wrap64 ((IntKind.u64.wrap n).tmod 1000000) = m at *
  obtain ⟨hm0, hm1⟩ := hbd
  refine (pNew_at m m (Or.inr ⟨hm0, rfl⟩) _).mono ?_
  rintro e w1 ⟨rfl, p1, g1⟩
  go_wp2_with fail
  refine (pNew_at 7 7 (Or.inr ⟨by omega, rfl⟩) _).mono ?_
  rintro e w2 ⟨rfl, p2, g2⟩
  go_wp2_with fail
  refine (pNew_at 0 0 (Or.inr ⟨by omega, rfl⟩) _).mono ?_
  rintro e w3 ⟨rfl, p3, g3⟩
  go_wp2_with fail
  refine (refNew_at _ hm0 _).mono ?_
  rintro e w4 ⟨rfl, hw4⟩
  go_wp2_with fail
  refine (refNew_at _ (by omega) _).mono ?_
  rintro e w5 ⟨rfl, hw5⟩
  go_wp2_with fail
  refine (refNew_at _ (by omega) _).mono ?_
  rintro e w6 ⟨rfl, hw6⟩
  go_wp2_with fail
  generalize hwa : w3.heap.size = A at *
  have st := hide (plays_start w w1 w2 w3 m hm0 hm1 p1 g1 p2 g2 p3 g3 A hwa)
  generalize ((((w3.alloc (.cells #[.pointer (some ⟨w.heap.size, 0, none⟩), .pointer (some ⟨w1.heap.size, 0, none⟩), .pointer (some ⟨w2.heap.size, 0, none⟩)] 36)).alloc
      (.cells #[.int .i64 m, .int .i64 0, .bool false] 63)).alloc (.cells #[.int .i64 7, .int .i64 0, .bool false] 63)).alloc (.cells #[.int .i64 0, .int .i64 0, .bool false] 63)).alloc
      (.cells #[.pointer (some ⟨A + 1, 0, none⟩), .pointer (some ⟨A + 1 + 1, 0, none⟩), .pointer (some ⟨A + 1 + 1 + 1, 0, none⟩)] 37) = W at *
  clear p1 g1 p2 g2 p3 g3 hw4 hw5 hw6 hwa
  generalize A + 1 + 1 + 1 + 1 = B at *
  refine wp_loop_rounds 1 ?_
  rw [rounds_succ]
  go_wp2_with fail
  refine (known_any _).mono ?_
  rintro e wk ⟨rfl, gk⟩
  have F := hide (plays_end st.out gk)
  clear gk
  go_wp2_with fail
  go_ret
  exact ⟨rfl, F.out⟩

end Go.Proofs.Ytjghglkeppagaaa
