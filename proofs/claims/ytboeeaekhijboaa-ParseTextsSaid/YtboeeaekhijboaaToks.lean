/- What Split tells, as a caller reads it. -/
import Derived.Test.YtboeeaekhijboaaSame
namespace Go.Proofs.Ytboeeaekhijboaa
open Go.RowKit
set_option linter.unusedVariables false

/-- a slice value that reads as these tokens -/
def IsToks (w : World) (v : Value) (ts : List Tok) : Prop :=
  ∃ a cap, v = .slice a ts.length cap ∧ (ts = [] ∨ ∃ g, a = some ⟨g, 0, none⟩ ∧ g < w.heap.size ∧ TokRow w g ts)

theorem isToks_of (w : World) (base : Nat) (e : TypeId) (v : Value) (ts : List Tok) (h : w.ownsRow base e 3 v ts.length (cellsOf ts)) : IsToks w v ts := by
  obtain ⟨h1, h2⟩ := id h
  rcases h2 with ⟨rfl, h3⟩ | ⟨g, cap, cur, rfl, h3⟩
  · exact ⟨none, 0, by rw [h3], Or.inl (List.eq_nil_of_length_eq_zero h3)⟩
  · exact ⟨_, cap, rfl, Or.inr ⟨g, rfl, (h.lt g rfl).2, tokRow_of w base e g cap ts h⟩⟩

theorem isToks_nil (w : World) : IsToks w (.slice none 0 0) [] := ⟨none, 0, rfl, Or.inl rfl⟩

theorem IsToks.below {w w' : World} {v : Value} {ts : List Tok} (h : IsToks w v ts) (hb : Below w.heap.size w w') : IsToks w' v ts := by
  obtain ⟨a, cap, rfl, h1⟩ := h
  refine ⟨a, cap, rfl, ?_⟩
  rcases h1 with h1 | ⟨g, rfl, hg, hr⟩
  · exact Or.inl h1
  · refine Or.inr ⟨g, rfl, by have := hb.size; omega, fun i hi => ?_⟩
    obtain ⟨x, y, z⟩ := hr i hi
    exact ⟨(hb.cell (p := ⟨g, _, none⟩) hg).trans x, (hb.cell (p := ⟨g, _, none⟩) hg).trans y, (hb.cell (p := ⟨g, _, none⟩) hg).trans z⟩

/-- what a text comes to, as the two Splits tell it -/
def flt (s : ByteArray) (T : List Tok × Option Flt) : Int × Int × Int × ByteArray :=
  match T.2 with
  | none => (0, 0, 0, ⟨#[]⟩)
  | some x => (x.1, (markOf (s.data.toList.take x.2.1)).1, (markOf (s.data.toList.take x.2.1)).2, x.2.2)
def toksOf (T : List Tok × Option Flt) : List Tok := match T.2 with | none => T.1 | some _ => []

theorem split_told (s : ByteArray) (hs : s.size ≤ 20000) (w : World) (F : Int × Int × Int × ByteArray) (hF : F = flt s (lexG s (s.size + 1) 0 false)) :
    Calls Try.prog 48 #[.string s] w fun e w' => (∃ v, e = .returned (.tuple #[v, .agg #[.int .i64 F.1, .int .i64 F.2.1, .int .i64 F.2.2.1, .string F.2.2.2]]) ∧ IsToks w' v (toksOf (lexG s (s.size + 1) 0 false))) ∧ Below w.heap.size w w' := by
  subst hF
  refine (split_any s hs w).mono ?_
  rintro e w' ⟨⟨v, he, ho⟩, hB⟩
  refine ⟨?_, hB⟩
  unfold outOf at he ho
  unfold flt toksOf
  cases hT : (lexG s (s.size + 1) 0 false).2 with
  | none => rw [hT] at he ho; exact ⟨v, he, isToks_of _ _ _ _ _ ho⟩
  | some x => rw [hT] at he; exact ⟨_, he, isToks_nil _⟩

theorem lexG_len (s : ByteArray) : ∀ f k b, k ≤ s.size → (lexG s f k b).1.length ≤ s.size - k := by
  intro f
  induction f with
  | zero => intro k b h; simp [lexG]
  | succ f ih =>
    intro k b h
    simp only [lexG]
    have hsl := skipLen_le (s.data.toList.drop k) b
    simp only [List.length_drop] at hsl
    rw [show s.data.toList.length = s.size by simp] at hsl
    have hfl := firstOf_le (s.data.toList.drop (k + skipLen (s.data.toList.drop k) b))
    simp only [List.length_drop] at hfl
    rw [show s.data.toList.length = s.size by simp] at hfl
    split
    · simp
    · split
      · simp
      · split
        · simp
        · have := ih (k + skipLen (s.data.toList.drop k) b + (firstOf (s.data.toList.drop (k + skipLen (s.data.toList.drop k) b))).2) false (by omega)
          simp only [List.length_cons]
          omega

theorem toks_len (s : ByteArray) : (toksOf (lexG s (s.size + 1) 0 false)).length ≤ s.size := by
  have := lexG_len s (s.size + 1) 0 false (Nat.zero_le _)
  unfold toksOf
  split
  · omega
  · simp

theorem step_in {w w1 w2 : World} (h : Below w.heap.size w w1) (h2 : Below w1.heap.size w1 w2) : Below w.heap.size w w2 := h.trans (h2.mono h.size)
theorem step_on {w w1 w2 : World} (h : Below w.heap.size w w1) (h2 : Below w1.heap.size w1.drew w2) : Below w.heap.size w w2 := h.drew.trans (h2.mono (by show w.heap.size ≤ w1.heap.size; exact h.size))

end Go.Proofs.Ytboeeaekhijboaa
