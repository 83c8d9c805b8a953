/- Three budgets of the program and the document's three, side by side: what each act does to their memory. -/
import Derived.Test.YtjghglkeppagaaaWalkAlls
namespace Go.Proofs.Ytjghglkeppagaaa
open Go.RowKit

/-- The function f, but v at x. -/
def up {α : Type} (f : Nat → α) (x : Nat) (v : α) : Nat → α := fun k => if k = x then v else f k
theorem up_at {α : Type} (f : Nat → α) (x : Nat) (v : α) : up f x v x = v := by simp [up]
theorem up_ne {α : Type} (f : Nat → α) (x k : Nat) (v : α) (h : k ≠ x) : up f x v k = f k := by simp [up, h]

/-- The row of three pointers at the block A. -/
def Ptrs (w : World) (A : Nat) (P : Nat → Nat) (T : TypeId) : Prop :=
  w.heap[A]? = some (.cells #[.pointer (some ⟨P 0, 0, none⟩), .pointer (some ⟨P 1, 0, none⟩), .pointer (some ⟨P 2, 0, none⟩)] T)

theorem three {x : Nat} (h : x < 3) : x = 0 ∨ x = 1 ∨ x = 2 := by omega

theorem Ptrs.cell {w : World} {A : Nat} {P : Nat → Nat} {T : TypeId} (h : Ptrs w A P T) {x : Nat} (hx : x < 3) : w.cell? ⟨A, x, none⟩ = some (.pointer (some ⟨P x, 0, none⟩)) := by
  unfold Ptrs at h
  rcases three hx with rfl | rfl | rfl <;> simp [World.cell?, h]
theorem Ptrs.free {w : World} {A : Nat} {P : Nat → Nat} {T : TypeId} (h : Ptrs w A P T) (x : Nat) : w.frozen? ⟨A, x, none⟩ = false := by
  unfold Ptrs at h
  simp [World.frozen?, h]
theorem Ptrs.lt {w : World} {A : Nat} {P : Nat → Nat} {T : TypeId} (h : Ptrs w A P T) : A < w.heap.size := (Array.getElem?_eq_some_iff.1 h).1
theorem Ptrs.chg {w w' : World} {A : Nat} {P : Nat → Nat} {T : TypeId} (h : Ptrs w A P T) {S : Nat → Prop} (g : Chg S w w') (hne : ¬ S A) : Ptrs w' A P T := by
  unfold Ptrs
  rw [g.block A h.lt hne]
  exact h
theorem Ptrs.set {w : World} {A : Nat} {P : Nat → Nat} {T : TypeId} (h : Ptrs w A P T) {x : Nat} (hx : x < 3) (c : Nat) :
    Ptrs (w.setCell ⟨A, x, none⟩ (.pointer (some ⟨c, 0, none⟩))) A (up P x c) T := by
  unfold Ptrs at h ⊢
  rw [setCell_at h]
  rcases three hx with rfl | rfl | rfl <;> simp [up]

/-- The state between two acts. -/
structure Good (w0 w : World) (A B : Nat) (P Q : Nat → Nat) (l u : Nat → Int) (d : Nat → Bool) : Prop where
  a : Ptrs w A P 36
  b : Ptrs w B Q 37
  pb : ∀ i, i < 3 → PB w (P i) (l i) (u i) (d i)
  rb : ∀ i, i < 3 → RB w (Q i) (l i) (u i) (d i)
  ab : A ≠ B
  pa : ∀ i, i < 3 → P i ≠ A
  pB : ∀ i, i < 3 → P i ≠ B
  qa : ∀ i, i < 3 → Q i ≠ A
  qB : ∀ i, i < 3 → Q i ≠ B
  pq : ∀ i j, i < 3 → j < 3 → P i ≠ Q j
  pp : ∀ i j, i < 3 → j < 3 → i ≠ j → P i ≠ P j
  qq : ∀ i j, i < 3 → j < 3 → i ≠ j → Q i ≠ Q j
  la : w0.heap.size ≤ A
  lb : w0.heap.size ≤ B
  lp : ∀ i, i < 3 → w0.heap.size ≤ P i
  lq : ∀ i, i < 3 → w0.heap.size ≤ Q i
  chg : Chg (fun k => w0.heap.size ≤ k) w0 w
  l0 : ∀ i, i < 3 → 0 ≤ l i
  ls : l 0 + l 1 + l 2 ≤ 1000007
  s0 : ∀ i, i < 3 → 0 ≤ l i + u i
  s1 : ∀ i, i < 3 → l i + u i ≤ 1000007

/-- What no act looks at may change. -/
theorem Good.keep {w0 w w' : World} {A B : Nat} {P Q : Nat → Nat} {l u : Nat → Int} {d : Nat → Bool} (h : Good w0 w A B P Q l u d) {S : Nat → Prop} (g : Chg S w w')
    (hs : ∀ k, S k → w.heap.size ≤ k) : Good w0 w' A B P Q l u d := by
  have n : ∀ k, k < w.heap.size → ¬ S k := fun k hk h => by have := hs k h; omega
  have hsz := h.chg.size
  exact { h with
    a := h.a.chg g (n _ h.a.lt)
    b := h.b.chg g (n _ h.b.lt)
    pb := fun i hi => (h.pb i hi).chg g (n _ (h.pb i hi).lt)
    rb := fun i hi => (h.rb i hi).chg g (n _ (h.rb i hi).lt)
    chg := h.chg.trans (g.mono (fun k _ hk => by have := hs k hk; omega)) }

theorem Good.bd {w0 w : World} {A B : Nat} {P Q : Nat → Nat} {l u : Nat → Int} {d : Nat → Bool} (h : Good w0 w A B P Q l u d) {i : Nat} (hi : i < 3) :
    0 ≤ l i ∧ l i ≤ 1000007 ∧ -1000007 ≤ u i ∧ u i ≤ 1000007 := by
  have a := h.l0 i hi
  have b := h.ls
  have c := h.s0 i hi
  have e := h.s1 i hi
  have a0 := h.l0 0 (by omega)
  have a1 := h.l0 1 (by omega)
  have a2 := h.l0 2 (by omega)
  rcases three hi with rfl | rfl | rfl <;> omega

theorem up_all {α : Type} {f : Nat → α} {x : Nat} {v : α} {p : Nat → α → Prop} (hx : p x v) (ho : ∀ k, k < 3 → k ≠ x → p k (f k)) : ∀ k, k < 3 → p k (up f x v k) := by
  intro k hk
  by_cases e : k = x
  · subst e; rw [up_at]; exact hx
  · rw [up_ne _ _ _ _ e]; exact ho k hk e

theorem up_sum (l : Nat → Int) {x : Nat} (hx : x < 3) (v : Int) : up l x v 0 + up l x v 1 + up l x v 2 = l 0 + l 1 + l 2 - l x + v := by
  rcases three hx with rfl | rfl | rfl <;> simp [up] <;> omega

/-- Spent at both. -/
theorem Good.spend {w0 w w1 w2 : World} {A B : Nat} {P Q : Nat → Nat} {l u : Nat → Int} {d : Nat → Bool} (h : Good w0 w A B P Q l u d) {x : Nat} (hx : x < 3) {l' u' : Int} {d' : Bool}
    (hl : 0 ≤ l' ∧ l' ≤ l x ∧ l' + u' = l x + u x)
    (p1 : PB w1 (P x) l' u' d') (g1 : Chg (fun k => k = P x) w w1) (p2 : RB w2 (Q x) l' u' d') (g2 : Chg (fun k => k = Q x) w1 w2) :
    Good w0 w2 A B P Q (up l x l') (up u x u') (up d x d') := by
  have g : Chg (fun k => k = P x ∨ k = Q x) w w2 := (g1.mono (fun _ _ h => Or.inl h)).trans (g2.mono (fun _ _ h => Or.inr h))
  exact { h with
    a := h.a.chg g (by have := h.pa x hx; have := h.qa x hx; omega)
    b := h.b.chg g (by have := h.pB x hx; have := h.qB x hx; omega)
    pb := fun i hi => by
      by_cases e : i = x
      · subst e; rw [up_at, up_at, up_at]; exact p1.chg g2 (h.pq i i hi hi)
      · rw [up_ne _ _ _ _ e, up_ne _ _ _ _ e, up_ne _ _ _ _ e]
        exact (h.pb i hi).chg g (by have := h.pp i x hi hx e; have := h.pq i x hi hx; omega)
    rb := fun i hi => by
      by_cases e : i = x
      · subst e; rw [up_at, up_at, up_at]; exact p2
      · rw [up_ne _ _ _ _ e, up_ne _ _ _ _ e, up_ne _ _ _ _ e]
        exact (h.rb i hi).chg g (by have := h.qq i x hi hx e; have := h.pq x i hx hi; omega)
    chg := h.chg.trans (g.mono (fun k _ hk => by have := h.lp x hx; have := h.lq x hx; omega))
    l0 := up_all hl.1 (fun k hk _ => h.l0 k hk)
    ls := by rw [up_sum l hx]; have := h.ls; omega
    s0 := fun i hi => by
      by_cases e : i = x
      · subst e; rw [up_at, up_at]; have := h.s0 i hi; omega
      · rw [up_ne _ _ _ _ e, up_ne _ _ _ _ e]; exact h.s0 i hi
    s1 := fun i hi => by
      by_cases e : i = x
      · subst e; rw [up_at, up_at]; have := h.s1 i hi; omega
      · rw [up_ne _ _ _ _ e, up_ne _ _ _ _ e]; exact h.s1 i hi }

/-- Brought back, of another one. -/
theorem Good.back {w0 w w1 w2 : World} {A B : Nat} {P Q : Nat → Nat} {l u : Nat → Int} {d : Nat → Bool} (h : Good w0 w A B P Q l u d) {x y : Nat} (hx : x < 3) (hy : y < 3) (hxy : x ≠ y)
    (p1 : PB w1 (P x) (l x + l y) (u x - l y) (d x || d y)) (p2 : PB w1 (P y) 0 (u y + l y) (d y)) (g1 : Chg (fun k => k = P x ∨ k = P y) w w1)
    (q1 : RB w2 (Q x) (l x + l y) (u x - l y) (d x || d y)) (q2 : RB w2 (Q y) 0 (u y + l y) (d y)) (g2 : Chg (fun k => k = Q x ∨ k = Q y) w1 w2) :
    Good w0 w2 A B P Q (up (up l x (l x + l y)) y 0) (up (up u x (u x - l y)) y (u y + l y)) (up d x (d x || d y)) := by
  have g : Chg (fun k => k = P x ∨ k = P y ∨ k = Q x ∨ k = Q y) w w2 :=
    (g1.mono (fun _ _ h => by omega)).trans (g2.mono (fun _ _ h => by omega))
  have e1 : ∀ {α : Type} (f : Nat → α) (a b : α), up (up f x a) y b x = a := fun f a b => by rw [up_ne _ _ _ _ hxy, up_at]
  have bx := h.bd hx
  have byy := h.bd hy
  have key : ∀ i, i < 3 → i = x ∨ i = y ∨ (i ≠ x ∧ i ≠ y) := fun i _ => by omega
  have dy : up d x (d x || d y) y = d y := up_ne _ _ _ _ (Ne.symm hxy)
  exact { h with
    a := h.a.chg g (by have := h.pa x hx; have := h.qa x hx; have := h.pa y hy; have := h.qa y hy; omega)
    b := h.b.chg g (by have := h.pB x hx; have := h.qB x hx; have := h.pB y hy; have := h.qB y hy; omega)
    pb := fun i hi => by
      rcases key i hi with rfl | rfl | ⟨h1, h2⟩
      · rw [e1, e1, up_at]; exact p1.chg g2 (by have := h.pq i i hi hi; have := h.pq i y hi hy; omega)
      · rw [up_at, up_at, dy]; exact p2.chg g2 (by have := h.pq i x hi hx; have := h.pq i i hi hi; omega)
      · rw [up_ne _ _ _ _ h2, up_ne _ _ _ _ h1, up_ne _ _ _ _ h2, up_ne _ _ _ _ h1, up_ne _ _ _ _ h1]
        exact (h.pb i hi).chg g (by have := h.pp i x hi hx h1; have := h.pp i y hi hy h2; have := h.pq i x hi hx; have := h.pq i y hi hy; omega)
    rb := fun i hi => by
      rcases key i hi with rfl | rfl | ⟨h1, h2⟩
      · rw [e1, e1, up_at]; exact q1
      · rw [up_at, up_at, dy]; exact q2
      · rw [up_ne _ _ _ _ h2, up_ne _ _ _ _ h1, up_ne _ _ _ _ h2, up_ne _ _ _ _ h1, up_ne _ _ _ _ h1]
        exact (h.rb i hi).chg g (by have := h.qq i x hi hx h1; have := h.qq i y hi hy h2; have := h.pq x i hx hi; have := h.pq y i hy hi; omega)
    chg := h.chg.trans (g.mono (fun k _ hk => by have := h.lp x hx; have := h.lq x hx; have := h.lp y hy; have := h.lq y hy; omega))
    l0 := fun i hi => by
      rcases key i hi with rfl | rfl | ⟨h1, h2⟩
      · rw [e1]; omega
      · rw [up_at]; omega
      · rw [up_ne _ _ _ _ h2, up_ne _ _ _ _ h1]; exact h.l0 i hi
    ls := by rw [up_sum _ hy, up_sum _ hx, up_ne _ _ _ _ (Ne.symm hxy)]; have := h.ls; omega
    s0 := fun i hi => by
      rcases key i hi with rfl | rfl | ⟨h1, h2⟩
      · rw [e1, e1]; have := h.s0 i hi; omega
      · rw [up_at, up_at]; have := h.s0 i hi; omega
      · rw [up_ne _ _ _ _ h2, up_ne _ _ _ _ h1, up_ne _ _ _ _ h2, up_ne _ _ _ _ h1]; exact h.s0 i hi
    s1 := fun i hi => by
      rcases key i hi with rfl | rfl | ⟨h1, h2⟩
      · rw [e1, e1]; have := h.s1 i hi; omega
      · rw [up_at, up_at]; have := h.s1 i hi; omega
      · rw [up_ne _ _ _ _ h2, up_ne _ _ _ _ h1, up_ne _ _ _ _ h2, up_ne _ _ _ _ h1]; exact h.s1 i hi }

/-- Split off of the one at x, and laid at y, at both. -/
theorem Good.split {w0 w w1 w2 : World} {A B : Nat} {P Q : Nat → Nat} {l u : Nat → Int} {d : Nat → Bool} (h : Good w0 w A B P Q l u d) {x y : Nat} (hx : x < 3) (hy : y < 3)
    {n : Int} {c e : Nat} (hc : w.heap.size ≤ c) (he : w1.heap.size ≤ e)
    (p1 : PB w1 (P x) (l x - cut n (l x)) (u x + cut n (l x)) (d x)) (p2 : PB w1 c (cut n (l x)) 0 false) (g1 : Chg (fun k => k = P x) w w1)
    (q1 : RB w2 (Q x) (l x - cut n (l x)) (u x + cut n (l x)) (d x)) (q2 : RB w2 e (cut n (l x)) 0 false) (g2 : Chg (fun k => k = Q x) w1 w2) :
    Good w0 ((w2.setCell ⟨A, y, none⟩ (.pointer (some ⟨c, 0, none⟩))).setCell ⟨B, y, none⟩ (.pointer (some ⟨e, 0, none⟩))) A B (up P y c) (up Q y e)
      (up (up l x (l x - cut n (l x))) y (cut n (l x))) (up (up u x (u x + cut n (l x))) y 0) (up d y false) := by
  have bx := h.bd hx
  have hcut := cut_bd n (l x) bx.1
  have hsz := h.chg.size
  have hsz1 := g1.size
  have hsz2 := g2.size
  have hcl := p2.lt
  have hel := q2.lt
  have A1 : A < w.heap.size := h.a.lt
  have B1 : B < w.heap.size := h.b.lt
  have P1 : ∀ i, i < 3 → P i < w.heap.size := fun i hi => (h.pb i hi).lt
  have Q1 : ∀ i, i < 3 → Q i < w.heap.size := fun i hi => (h.rb i hi).lt
  have g : Chg (fun k => k = P x ∨ k = Q x) w w2 := (g1.mono (fun _ _ h => Or.inl h)).trans (g2.mono (fun _ _ h => Or.inr h))
  have ab := h.ab
  obtain ⟨w3, hw3⟩ : ∃ w3, w3 = ((w2.setCell ⟨A, y, none⟩ (.pointer (some ⟨c, 0, none⟩))).setCell ⟨B, y, none⟩ (.pointer (some ⟨e, 0, none⟩))) := ⟨_, rfl⟩
  have g3 : Chg (fun k => k = A ∨ k = B) w2 w3 := by
    rw [hw3]
    exact ((Chg.refl _ _).setCell (Or.inl (Or.inl rfl)) _).setCell (Or.inl (Or.inr rfl)) _
  have a2 : Ptrs w2 A P 36 := h.a.chg g (by have := h.pa x hx; have := h.qa x hx; omega)
  have b2 : Ptrs w2 B Q 37 := h.b.chg g (by have := h.pB x hx; have := h.qB x hx; omega)
  have a3 : Ptrs w3 A (up P y c) 36 := by
    rw [hw3]
    exact (a2.set hy c).chg ((Chg.refl (fun k => k = B) _).setCell (Or.inl rfl) _) ab
  have b3 : Ptrs w3 B (up Q y e) 37 := by
    rw [hw3]
    exact (b2.chg ((Chg.refl (fun k => k = A) _).setCell (Or.inl rfl) _) (Ne.symm ab)).set hy e
  rw [← hw3]
  clear hw3
  have G : Chg (fun k => k = P x ∨ k = Q x ∨ k = A ∨ k = B) w w3 := (g.mono (fun _ _ h => by omega)).trans (g3.mono (fun _ _ h => by omega))
  have ppx : PB w3 (P x) (l x - cut n (l x)) (u x + cut n (l x)) (d x) := (p1.chg g2 (h.pq x x hx hx)).chg g3 (by have := h.pa x hx; have := h.pB x hx; omega)
  have pcc : PB w3 c (cut n (l x)) 0 false := (p2.chg g2 (by have := Q1 x hx; omega)).chg g3 (by omega)
  have qqx : RB w3 (Q x) (l x - cut n (l x)) (u x + cut n (l x)) (d x) := q1.chg g3 (by have := h.qa x hx; have := h.qB x hx; omega)
  have qee : RB w3 e (cut n (l x)) 0 false := q2.chg g3 (by omega)
  generalize cut n (l x) = m at *
  have key : ∀ i, i < 3 → i = y ∨ (i ≠ y ∧ i = x) ∨ (i ≠ y ∧ i ≠ x) := fun i _ => by omega
  exact {
    a := a3
    b := b3
    pb := fun i hi => by
      rcases key i hi with rfl | ⟨h1, rfl⟩ | ⟨h1, h2⟩
      · rw [up_at, up_at, up_at, up_at]; exact pcc
      · rw [up_ne _ _ _ _ h1, up_ne _ _ _ _ h1, up_ne _ _ _ _ h1, up_ne _ _ _ _ h1, up_at, up_at]; exact ppx
      · rw [up_ne _ _ _ _ h1, up_ne _ _ _ _ h1, up_ne _ _ _ _ h1, up_ne _ _ _ _ h1, up_ne _ _ _ _ h2, up_ne _ _ _ _ h2]
        exact (h.pb i hi).chg G (by have := h.pp i x hi hx h2; have := h.pq i x hi hx; have := h.pa i hi; have := h.pB i hi; omega)
    rb := fun i hi => by
      rcases key i hi with rfl | ⟨h1, rfl⟩ | ⟨h1, h2⟩
      · rw [up_at, up_at, up_at, up_at]; exact qee
      · rw [up_ne _ _ _ _ h1, up_ne _ _ _ _ h1, up_ne _ _ _ _ h1, up_ne _ _ _ _ h1, up_at, up_at]; exact qqx
      · rw [up_ne _ _ _ _ h1, up_ne _ _ _ _ h1, up_ne _ _ _ _ h1, up_ne _ _ _ _ h1, up_ne _ _ _ _ h2, up_ne _ _ _ _ h2]
        exact (h.rb i hi).chg G (by have := h.qq i x hi hx h2; have := h.pq x i hx hi; have := h.qa i hi; have := h.qB i hi; omega)
    ab := ab
    pa := up_all (p := fun _ v => v ≠ A) (by omega) (fun k hk _ => h.pa k hk)
    pB := up_all (p := fun _ v => v ≠ B) (by omega) (fun k hk _ => h.pB k hk)
    qa := up_all (p := fun _ v => v ≠ A) (by omega) (fun k hk _ => h.qa k hk)
    qB := up_all (p := fun _ v => v ≠ B) (by omega) (fun k hk _ => h.qB k hk)
    pq := fun i j hi hj => by
      have hp := P1 i hi
      have hq := Q1 j hj
      have hn := h.pq i j hi hj
      unfold up
      split <;> split <;> omega
    pp := fun i j hi hj hij => by
      have hp := P1 i hi
      have hq := P1 j hj
      have hn := h.pp i j hi hj hij
      unfold up
      split <;> split <;> omega
    qq := fun i j hi hj hij => by
      have hp := Q1 i hi
      have hq := Q1 j hj
      have hn := h.qq i j hi hj hij
      unfold up
      split <;> split <;> omega
    la := h.la
    lb := h.lb
    lp := up_all (p := fun _ v => w0.heap.size ≤ v) (by omega) (fun k hk _ => h.lp k hk)
    lq := up_all (p := fun _ v => w0.heap.size ≤ v) (by omega) (fun k hk _ => h.lq k hk)
    chg := h.chg.trans (G.mono (fun k _ hk => by have := h.lp x hx; have := h.lq x hx; have := h.la; have := h.lb; omega))
    l0 := fun i hi => by
      rcases key i hi with rfl | ⟨h1, rfl⟩ | ⟨h1, h2⟩
      · rw [up_at]; omega
      · rw [up_ne _ _ _ _ h1, up_at]; omega
      · rw [up_ne _ _ _ _ h1, up_ne _ _ _ _ h2]; exact h.l0 i hi
    ls := by
      have b0 := h.ls
      have hy0 := h.l0 y hy
      rw [up_sum _ hy, up_sum _ hx]
      by_cases e : y = x
      · subst e; rw [up_at]; omega
      · rw [up_ne _ _ _ _ e]; omega
    s0 := fun i hi => by
      rcases key i hi with rfl | ⟨h1, rfl⟩ | ⟨h1, h2⟩
      · rw [up_at, up_at]; omega
      · rw [up_ne _ _ _ _ h1, up_ne _ _ _ _ h1, up_at, up_at]; have := h.s0 i hi; omega
      · rw [up_ne _ _ _ _ h1, up_ne _ _ _ _ h1, up_ne _ _ _ _ h2, up_ne _ _ _ _ h2]; exact h.s0 i hi
    s1 := fun i hi => by
      rcases key i hi with rfl | ⟨h1, rfl⟩ | ⟨h1, h2⟩
      · rw [up_at, up_at]; omega
      · rw [up_ne _ _ _ _ h1, up_ne _ _ _ _ h1, up_at, up_at]; have := h.s1 i hi; omega
      · rw [up_ne _ _ _ _ h1, up_ne _ _ _ _ h1, up_ne _ _ _ _ h2, up_ne _ _ _ _ h2]; exact h.s1 i hi }

end Go.Proofs.Ytjghglkeppagaaa
