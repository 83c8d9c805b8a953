/- filigreeref03.Is. -/
import Derived.Test.YtdoohocdaacnaaaDoorLexR3
import Derived.Laws.IdiomStrings
namespace Go.Proofs.YtdoohocdaacnaaaDoor.R
open Go.RowKit
set_option linter.unusedVariables false
set_option linter.unusedSimpArgs false

theorem cellsOf_get (ts : List Tok) (i : Nat) (h : i < ts.length) : (cellsOf ts)[i * 3]? = some (.int .i64 ts[i].1) ∧ (cellsOf ts)[i * 3 + 1]? = some (.string ts[i].2.1) ∧ (cellsOf ts)[i * 3 + 2]? = some (.int .i64 (ts[i].2.2 : Int)) := by
  induction ts generalizing i with
  | nil => simp at h
  | cons t r ih =>
    have e : cellsOf (t :: r) = [.int .i64 t.1, .string t.2.1, .int .i64 (t.2.2 : Int)] ++ cellsOf r := rfl
    cases i with
    | zero => rw [e]; simp
    | succ i =>
      have h' : i < r.length := by simpa using h
      obtain ⟨a, b, c⟩ := ih i h'
      have l3 : ([.int .i64 t.1, .string t.2.1, .int .i64 (t.2.2 : Int)] : List Value).length = 3 := rfl
      rw [e, List.getElem?_append_right (by rw [l3]; omega), List.getElem?_append_right (by rw [l3]; omega), List.getElem?_append_right (by rw [l3]; omega)]
      rw [l3, show (i + 1) * 3 - 3 = i * 3 by omega, show (i + 1) * 3 + 1 - 3 = i * 3 + 1 by omega, show (i + 1) * 3 + 2 - 3 = i * 3 + 2 by omega]
      simpa using ⟨a, b, c⟩

/-- a row of tokens as a caller reads it -/
def TokRow (w : World) (g : Nat) (ts : List Tok) : Prop :=
  ∀ i (h : i < ts.length), w.cell? ⟨g, i * 3, none⟩ = some (.int .i64 ts[i].1) ∧ w.cell? ⟨g, i * 3 + 1, none⟩ = some (.string ts[i].2.1) ∧ w.cell? ⟨g, i * 3 + 2, none⟩ = some (.int .i64 (ts[i].2.2 : Int))

theorem tokRow_of (w : World) (base : Nat) (e : TypeId) (g : Nat) (cap : Nat) (ts : List Tok) (h : w.ownsRow base e 3 (.slice (some ⟨g, 0, none⟩) ts.length cap) ts.length (cellsOf ts)) : TokRow w g ts := by
  intro i hi
  obtain ⟨a, b, c⟩ := cellsOf_get ts i hi
  have hc := h.cells (g := g) rfl
  have ha := hc _ _ a
  have hb := hc _ _ b
  have hcc := hc _ _ c
  have hadd : ∀ j, (⟨g, 0, none⟩ : Addr).add j = ⟨g, j, none⟩ := by
    intro j; unfold Addr.add; split <;> simp_all
  rw [hadd] at ha hb hcc
  exact ⟨ha, hb, hcc⟩

/-- a slice value that reads as these tokens -/
def IsToks (w : World) (v : Value) (ts : List Tok) : Prop :=
  ∃ a cap, v = .slice a ts.length cap ∧ (ts = [] ∨ ∃ g, a = some ⟨g, 0, none⟩ ∧ g < w.heap.size ∧ TokRow w g ts)

theorem isToks_of (w : World) (base : Nat) (e : TypeId) (v : Value) (ts : List Tok) (h : w.ownsRow base e 3 v ts.length (cellsOf ts)) : IsToks w v ts := by
  obtain ⟨h1, h2⟩ := id h
  rcases h2 with ⟨rfl, h3⟩ | ⟨g, cap, cur, rfl, h3⟩
  · exact ⟨none, 0, by rw [h3], Or.inl (List.eq_nil_of_length_eq_zero h3)⟩
  · exact ⟨_, cap, rfl, Or.inr ⟨g, rfl, (h.lt g rfl).2, tokRow_of w base e g cap ts h⟩⟩

theorem isToks_nil (w : World) : IsToks w (.slice none 0 0) [] := ⟨none, 0, rfl, Or.inl rfl⟩

theorem IsToks.below {w w' : World} {v : Value} {ts : List Tok} (h : IsToks w v ts) (hb : Below w.heap.size w w') : IsToks w' v ts := by
  obtain ⟨a, cap, rfl, h1⟩ := h
  refine ⟨a, cap, rfl, ?_⟩
  rcases h1 with h1 | ⟨g, rfl, hg, hr⟩
  · exact Or.inl h1
  · refine Or.inr ⟨g, rfl, by have := hb.size; omega, fun i hi => ?_⟩
    obtain ⟨x, y, z⟩ := hr i hi
    exact ⟨(hb.cell (p := ⟨g, _, none⟩) hg).trans x, (hb.cell (p := ⟨g, _, none⟩) hg).trans y, (hb.cell (p := ⟨g, _, none⟩) hg).trans z⟩

/-- what a text comes to, as the two Splits tell it -/
def flt (s : ByteArray) (T : List Tok × Option Flt) : Int × Int × Int × ByteArray :=
  match T.2 with
  | none => (0, 0, 0, ⟨#[]⟩)
  | some x => (x.1, (markOf (s.data.toList.take x.2.1)).1, (markOf (s.data.toList.take x.2.1)).2, x.2.2)
def toksOf (T : List Tok × Option Flt) : List Tok := match T.2 with | none => T.1 | some _ => []

theorem refSplit_told (s : ByteArray) (hs : s.size ≤ 20000) (w : World) (F : Int × Int × Int × ByteArray) (hF : F = flt s (lexG s (s.size + 1) 0 false)) :
    Calls Tryd.prog 49 #[.string s] w fun e w' => (∃ v, e = .returned (.tuple #[v, .agg #[.int .i64 F.1, .int .i64 F.2.1, .int .i64 F.2.2.1, .string F.2.2.2]]) ∧ IsToks w' v (toksOf (lexG s (s.size + 1) 0 false))) ∧ Below w.heap.size w w' := by
  subst hF
  refine (refSplit_any s hs w).mono ?_
  rintro e w' ⟨⟨v, he, ho⟩, hB⟩
  refine ⟨?_, hB⟩
  unfold outR at he ho
  unfold flt toksOf
  cases hT : (lexG s (s.size + 1) 0 false).2 with
  | none => rw [hT] at he ho; exact ⟨v, he, isToks_of _ _ _ _ _ ho⟩
  | some x => rw [hT] at he; exact ⟨_, he, isToks_nil _⟩

theorem lexG_len (s : ByteArray) : ∀ f k b, k ≤ s.size → (lexG s f k b).1.length ≤ s.size - k := by
  intro f
  induction f with
  | zero => intro k b h; simp [lexG]
  | succ f ih =>
    intro k b h
    simp only [lexG]
    have hsl := skipLen_le (s.data.toList.drop k) b
    simp only [List.length_drop] at hsl
    rw [show s.data.toList.length = s.size by simp] at hsl
    have hfl := firstOf_le (s.data.toList.drop (k + skipLen (s.data.toList.drop k) b))
    simp only [List.length_drop] at hfl
    rw [show s.data.toList.length = s.size by simp] at hfl
    split
    · simp
    · split
      · simp
      · split
        · simp
        · have := ih (k + skipLen (s.data.toList.drop k) b + (firstOf (s.data.toList.drop (k + skipLen (s.data.toList.drop k) b))).2) false (by omega)
          simp only [List.length_cons]
          omega

theorem lexG_code (s : ByteArray) : ∀ f k b x, (lexG s f k b).2 = some x → x.1 ≠ 0 := by
  intro f
  induction f with
  | zero => intro k b x h; simp [lexG] at h
  | succ f ih =>
    intro k b x h
    simp only [lexG] at h
    split at h
    · simp at h
    · split at h
      · simp at h; subst h; simp
      · split at h
        · simp at h; subst h; simp
        · exact ih _ _ _ h

set_option maxRecDepth 100000 in
set_option maxHeartbeats 4000000 in
theorem is_any (s : ByteArray) (kd : Int) (hs : s.size ≤ 20000) (w : World) :
    Calls Tryd.prog 36 #[.string s, .int .i64 kd] w fun e w' => e = .returned (.bool (isB s kd)) ∧ Below w.heap.size w w' := by
  obtain ⟨T, hT⟩ : ∃ T, lexG s (s.size + 1) 0 false = T := ⟨_, rfl⟩
  have hcode : ∀ x, T.2 = some x → x.1 ≠ 0 := fun x h => lexG_code s _ _ _ x (by rw [hT]; exact h)
  have hlen : T.1.length ≤ s.size := by have := lexG_len s (s.size + 1) 0 false (Nat.zero_le _); rw [hT] at this; omega
  have hB : isB s kd = isT T s kd := by unfold isB; rw [hT]
  obtain ⟨F, hF⟩ : ∃ F, F = flt s T := ⟨_, rfl⟩
  have rp0 : Hid (∀ w, _) := fun w => refSplit_told s hs w F (by rw [hT]; exact hF)
  rw [hT] at rp0
  clear hT
  obtain ⟨ts, fo⟩ := T
  cases fo with
  | some x =>
    have hx := hcode x rfl
    have e : isB s kd = false := by rw [hB]; unfold isT; cases ts with | nil => rfl | cons a r => cases r <;> rfl
    rw [e]
    have f0 : F.1 = x.1 := by rw [hF]; rfl
    obtain ⟨F0, F1, F2, F3⟩ := F
    have f0' : F0 ≠ 0 := by intro h; exact hx (by rw [← f0]; exact h)
    have f0b : (F0 == 0) = false := by simp [f0']
    clear hB e hF hcode hlen f0 hx
    go_enter Tryd.func36, Tryd.ntmps36
    go_wp2_with fail
    refine (rp0.out _).mono ?_
    rintro e w1 ⟨⟨v, rfl, hv⟩, h1⟩
    have H1 := hide h1
    clear h1 hv
    go_wp2_with fail
    go_ret
    exact ⟨rfl, H1.out.alloc H1.out.size _⟩
  | none =>
    by_cases h1 : ts.length = 1
    · match ts, h1 with
      | [t], _ =>
        obtain ⟨t0, t1, t2⟩ := t
        have e : isB s kd = ((t0 == kd) && (t1.toList == s.toList)) := hB
        rw [e]
        have hF' : F = (0, 0, 0, ⟨#[]⟩) := by rw [hF]; rfl
        subst hF'
        have ht : toksOf ([(t0, t1, t2)], (none : Option Flt)) = [(t0, t1, t2)] := rfl
        rw [ht] at rp0
        clear hB e hF hcode hlen ht
        go_enter Tryd.func36, Tryd.ntmps36
        go_wp2_with fail
        refine (rp0.out _).mono ?_
        rintro e w1 ⟨⟨v, rfl, a, cap, rfl, hv⟩, h1⟩
        rcases hv with h | ⟨g, rfl, hg, hr⟩
        · simp at h
        · obtain ⟨r0, r1, -⟩ := hr 0 (by simp)
          have D0 : (w1.alloc (Obj.cells #[.int .i64 0, .int .i64 0, .int .i64 0, .string ⟨#[]⟩] 116)).cell? ⟨g, 0, none⟩ = some (.int .i64 t0) := (World.cell?_alloc_past _ _ _ hg).trans r0
          have D1 : (w1.alloc (Obj.cells #[.int .i64 0, .int .i64 0, .int .i64 0, .string ⟨#[]⟩] 116)).cell? ⟨g, 1, none⟩ = some (.string t1) := (World.cell?_alloc_past _ _ _ hg).trans r1
          have H1 := hide h1
          clear h1 hr r0 r1
          go_wp2_with fail
          all_goals go_ret
          · refine ⟨?_, H1.out.alloc H1.out.size _⟩
            simp
            intro _
            assumption
          · refine ⟨?_, H1.out.alloc H1.out.size _⟩
            have h0 : (t0 == kd) = false := by simp; assumption
            simp [h0]
    · have e : isB s kd = false := by
        rw [hB]
        match ts, h1 with
        | [], _ => rfl
        | [_], h => simp at h
        | _ :: _ :: _, _ => rfl
      rw [e]
      have hF' : F = (0, 0, 0, ⟨#[]⟩) := by rw [hF]; rfl
      subst hF'
      have hne : ((ts.length : Int) == 1) = false := by simp; omega
      have ht : toksOf (ts, (none : Option Flt)) = ts := rfl
      rw [ht] at rp0
      clear hB e hF hcode ht
      go_enter Tryd.func36, Tryd.ntmps36
      go_wp2_with fail
      refine (rp0.out _).mono ?_
      rintro e w1 ⟨⟨v, rfl, a, cap, rfl, hv⟩, h1⟩
      have H1 := hide h1
      clear h1 hv
      go_wp2_with fail
      go_ret
      exact ⟨rfl, H1.out.alloc H1.out.size _⟩
end Go.Proofs.YtdoohocdaacnaaaDoor.R
