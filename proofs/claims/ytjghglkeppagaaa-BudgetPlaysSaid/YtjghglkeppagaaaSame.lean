/- The law's own helpers: 'same', 'known'; budget's All. -/
import Derived.Test.YtjghglkeppagaaaBud
import Derived.Test.YtjghglkeppagaaaRef
import Derived.Deep.QuietTactic
import Derived.BigQuiet
namespace Go.Proofs.Ytjghglkeppagaaa
open Go.RowKit

theorem RB.chg {w w' : World} {b : Nat} {l u : Int} {d : Bool} (h : RB w b l u d) {S : Nat → Prop} (g : Chg S w w') (hne : ¬ S b) : RB w' b l u d := by
  unfold RB
  rw [g.block b h.lt hne]
  exact h

theorem flip {P : Program} {f : FuncId} {args : Array Value} {w : World} {v : Value} (h : Calls P f args w fun e w' => e = .returned v ∧ w = w') :
    Calls P f args w fun e w' => e = .returned v ∧ w' = w := h.mono fun _ _ ⟨h1, h2⟩ => ⟨h1, h2.symm⟩

theorem same_yes (b o : Nat) (l u : Int) (d : Bool) (w : World) (h : PB w b l u d) (k : RB w o l u d) :
    Calls Try.prog 13 #[.pointer (some ⟨b, 0, none⟩), .pointer (some ⟨o, 0, none⟩)] w fun e w' => e = .returned (.bool true) ∧ ∃ n, w' = w.drewN n := by
  have c0 := k.cell 0
  have c1 := k.cell 1
  have c2 := k.cell 2
  have q1 := hide (fun n => flip (pLeft b l u d (w.drewN n) h))
  have q2 := hide (fun n => flip (pUsed b l u d (w.drewN n) h))
  have q3 := hide (fun n => flip (pDry b l u d (w.drewN n) h))
  clear h k
  go_enter Try.func13, Try.ntmps13
  go_wp2_with fail
  go_quiet (first
    | (go_at_call 14; exact Calls.quiet_of_same (q1.out _))
    | (go_at_call 21; exact Calls.quiet_of_same (q2.out _))
    | (go_at_call 15; exact Calls.quiet_of_same (q3.out _)))
  go_wp2_with fail
  go_ret
  exact ⟨rfl, _, rfl⟩
/-- Spend, in numbers: does it go, and what is behind it. -/
def spOk (l : Int) (d : Bool) (n : Int) : Bool := decide (0 ≤ n) && (!d && decide (n ≤ l))
def spL (l : Int) (d : Bool) (n : Int) : Int := if n < 0 then l else if spOk l d n = true then l - n else 0
def spU (l u : Int) (d : Bool) (n : Int) : Int := if n < 0 then u else if spOk l d n = true then u + n else u + l
def spD (l : Int) (d : Bool) (n : Int) : Bool := if n < 0 then d else !spOk l d n

theorem sp_cases (l u : Int) (d : Bool) (n : Int) :
    (n < 0 ∧ spOk l d n = false ∧ spL l d n = l ∧ spU l u d n = u ∧ spD l d n = d) ∨
    (0 ≤ n ∧ d = false ∧ n ≤ l ∧ spOk l d n = true ∧ spL l d n = l - n ∧ spU l u d n = u + n ∧ spD l d n = false) ∨
    (0 ≤ n ∧ (d = true ∨ l < n) ∧ spOk l d n = false ∧ spL l d n = 0 ∧ spU l u d n = u + l ∧ spD l d n = true) := by
  by_cases h : n < 0
  · refine Or.inl ⟨h, ?_, ?_, ?_, ?_⟩
    · have : ¬ 0 ≤ n := by omega
      simp [spOk, this]
    all_goals simp [spL, spU, spD, h]
  · have h0 : 0 ≤ n := by omega
    by_cases hk : spOk l d n = true
    · refine Or.inr (Or.inl ⟨h0, ?_, ?_, hk, ?_, ?_, ?_⟩)
      · simp [spOk] at hk; exact hk.2.1
      · simp [spOk] at hk; exact hk.2.2
      all_goals simp [spL, spU, spD, h, hk]
    · refine Or.inr (Or.inr ⟨h0, ?_, ?_, ?_, ?_, ?_⟩)
      · simp [spOk, h0] at hk
        cases d
        · exact Or.inr (by have := hk rfl; omega)
        · exact Or.inl rfl
      · simpa using hk
      all_goals simp [spL, spU, spD, h, hk]

theorem sp_bd (l u : Int) (d : Bool) (n : Int) (hl : 0 ≤ l) : 0 ≤ spL l d n ∧ spL l d n ≤ l ∧ spL l d n + spU l u d n = l + u := by
  rcases sp_cases l u d n with ⟨h1, _, h2, h3, _⟩ | ⟨h1, _, h2, _, h3, h4, _⟩ | ⟨h1, _, _, h3, h4, _⟩ <;> omega

theorem pSpend (b : Nat) (l u n : Int) (d : Bool) (w : World) (h : PB w b l u d) (hl0 : 0 ≤ l) (hl : l ≤ 1000000000) (hu : -1000000000000 ≤ u ∧ u ≤ 1000000000000) :
    Calls Try.prog 16 #[.pointer (some ⟨b, 0, none⟩), .int .i64 n] w fun e w' => e = .returned (.bool (spOk l d n)) ∧ PB w' b (spL l d n) (spU l u d n) (spD l d n) ∧ Chg (fun k => k = b) w w' := by
  rcases sp_cases l u d n with ⟨h1, h2, h3, h4, h5⟩ | ⟨h1, h2, h3, h4, h5, h6, h7⟩ | ⟨h1, h2, h3, h4, h5, h6⟩
  · rw [h2, h3, h4, h5]
    exact (pSpend_neg _ n h1 w).mono fun _ _ ⟨p, q⟩ => ⟨p, by rw [← q]; exact h, by rw [← q]; exact Chg.refl _ _⟩
  · rw [h4, h5, h6, h7]
    rw [h2] at h
    exact pSpend_yes b l u n w h h1 h3 hl hu
  · rw [h3, h4, h5, h6]
    exact pSpend_no b l u n d w h h1 h2 hl0 hl hu

theorem rSpend (b : Nat) (l u n : Int) (d : Bool) (w : World) (h : RB w b l u d) (hl0 : 0 ≤ l) (hl : l ≤ 1000000000) (hu : -1000000000000 ≤ u ∧ u ≤ 1000000000000) :
    Calls Try.prog 10 #[.pointer (some ⟨b, 0, none⟩), .int .i64 n] w fun e w' => e = .returned (.bool (spOk l d n)) ∧ RB w' b (spL l d n) (spU l u d n) (spD l d n) ∧ Chg (fun k => k = b) w w' := by
  rcases sp_cases l u d n with ⟨h1, h2, h3, h4, h5⟩ | ⟨h1, h2, h3, h4, h5, h6, h7⟩ | ⟨h1, h2, h3, h4, h5, h6⟩
  · rw [h2, h3, h4, h5]
    exact (refSpend_neg _ n w h1).mono fun _ _ ⟨p, q⟩ => ⟨p, by rw [← q]; exact h, by rw [← q]; exact Chg.refl _ _⟩
  · rw [h4, h5, h6, h7]
    rw [h2] at h
    exact (refSpend_yes b l u n w h h1 h3 hl hu).mono fun _ _ ⟨p, q, r⟩ => ⟨p, q, Chg.of_grown r⟩
  · rw [h3, h4, h5, h6]
    exact (refSpend_no b l u n d w h h1 h2 hl0 hl hu).mono fun _ _ ⟨p, q, r⟩ => ⟨p, q, Chg.of_grown r⟩

/-- Units asked one by one: are all had, and what is behind it. -/
def run : List Int → Int → Int → Bool → Bool × Int × Int × Bool
  | [], l, u, d => (true, l, u, d)
  | n :: r, l, u, d => if spOk l d n = true then run r (spL l d n) (spU l u d n) (spD l d n) else (false, spL l d n, spU l u d n, spD l d n)

end Go.Proofs.Ytjghglkeppagaaa
