/- Maps from names. -/
import Derived.Test.YtdoohocdaacnaaaDoorWord
import Derived.Test.YtdoohocdaacnaaaDoorRight
import Derived.Maps.OwnSet
import Derived.Maps.Views
namespace Go.Proofs.YtdoohocdaacnaaaDoor
open Go.RowKit Go.Maps
set_option linter.unusedVariables false
set_option linter.unusedSimpArgs false

theorem law9 : Keyed Tryd.prog 9 := string_keyed Tryd.underlying9
theorem key9 {s : ByteArray} (h : s.size ≤ maxLen) : keyOf Tryd.prog 9 (.string s) = some (.string s.data.toList) := by
  simp [keyOf, Tryd.underlying9, mapKey, h]
theorem bytes_eq {a b : ByteArray} (h : a.data.toList = b.data.toList) : a = b := by
  cases a; cases b; congr; exact Array.toList_inj.1 h

/-- The block B holds a map from names that reads as f. -/
def MS {V : Type} (R : Value → Option (DataW Unit × List MemPlace)) (enc : V → DataW Unit) (w : World) (B m : Nat) (f : ByteArray → Option V) : Prop :=
  ∃ D : DataW Unit, w.ownsMap Tryd.prog 9 R B m D ∧ IsMap D ∧ ∀ s : ByteArray, s.size ≤ maxLen → Maps.has D (.string s.data.toList) = (f s).isSome ∧ ∀ z, D.atKey (.string s.data.toList) z = (match f s with | some x => enc x | none => z)

section
variable {V : Type} {R : Value → Option (DataW Unit × List MemPlace)} {enc : V → DataW Unit} {w : World} {B m : Nat} {f : ByteArray → Option V}

theorem MS.chg {w' : World} (h : MS R enc w B m f) {S : Nat → Prop} (g : Chg S w w') (hn : ¬ S B) : MS R enc w' B m f := by
  obtain ⟨D, h1, h2⟩ := h
  obtain ⟨es, clock, hb, F⟩ := h1
  exact ⟨D, ⟨es, clock, g.blk hn hb, F⟩, h2⟩
theorem MS.lt (h : MS R enc w B m f) : B < w.heap.size := by
  obtain ⟨D, h1, h2⟩ := h
  exact h1.lt
theorem MS.made (w : World) : MS R enc (w.alloc (.map #[] 0)) w.heap.size 0 (fun _ => none) :=
  ⟨_, World.ownsMap_made _ _ _ _, ⟨[], rfl⟩, fun x hx => ⟨rfl, fun z => rfl⟩⟩

theorem MS.put (h : MS R enc w B m f) {t e : TypeId} (ht : Tryd.prog.underlying t = some (.map 9 e)) (hm : m ≤ 1000000) {s : ByteArray} (hs : s.size ≤ maxLen) {val : Value} {x : V} {ps : List MemPlace} (hv : R val = some (enc x, ps)) :
    ∃ w', (Instr.mapUpdate t (.map (some B)) (.string s) val).run Tryd.prog w = .ok () w' ∧ MS R enc w' B (m + 1) (fun k => if k = s then some x else f k) ∧ Chg (fun b => b = B) w w' := by
  obtain ⟨D, h1, h2, h3⟩ := h
  obtain ⟨w', hrun, hown, hgrow⟩ := h1.update law9 ht (by unfold maxLen; omega) (key9 hs) hv
  refine ⟨w', hrun, ⟨_, hown, h2.put _ _, fun k hk => ?_⟩, ⟨hgrow.os, hgrow.tape, hgrow.output, hgrow.size, fun i hi hn => hgrow.block i hi (fun e => hn (by injection e))⟩⟩
  by_cases e : k = s
  · subst e
    have hkl := law9.key (key9 hs)
    simp only [if_true]
    exact ⟨has_put_same h2 hkl _, fun z => atKey_put_same h2 hkl _ _⟩
  · have hne : (Lit.string k.data.toList) ≠ (Lit.string s.data.toList) := fun h => e (bytes_eq (by injection h))
    simp only [if_neg e]
    rw [has_put_other hne]
    refine ⟨(h3 k hk).1, fun z => ?_⟩
    rw [atKey_put_other hne]
    exact (h3 k hk).2 z

theorem MS.get (h : MS R enc w B m f) {t e : TypeId} (ht : Tryd.prog.underlying t = some (.map 9 e)) {z : Value} (hz : (zeroValue e).run Tryd.prog w = .ok z w) {zd : DataW Unit} {zp : List MemPlace} (hzd : R z = some (zd, zp)) {s : ByteArray} (hs : s.size ≤ maxLen) :
    ∃ v ps, (Instr.lookup t (.map (some B)) (.string s) false).run Tryd.prog w = .ok v w ∧ R v = some ((match f s with | some x => enc x | none => zd), ps) := by
  obtain ⟨D, h1, h2, h3⟩ := h
  obtain ⟨v, ps, hr, hv⟩ := h1.lookup law9 ht hz hzd (key9 hs)
  exact ⟨v, ps, hr, by rw [hv, (h3 s hs).2]⟩
theorem MS.ok (h : MS R enc w B m f) {t e : TypeId} (ht : Tryd.prog.underlying t = some (.map 9 e)) {z : Value} (hz : (zeroValue e).run Tryd.prog w = .ok z w) {zd : DataW Unit} {zp : List MemPlace} (hzd : R z = some (zd, zp)) {s : ByteArray} (hs : s.size ≤ maxLen) :
    ∃ v ps, (Instr.lookup t (.map (some B)) (.string s) true).run Tryd.prog w = .ok (.tuple #[v, .bool (f s).isSome]) w ∧ R v = some ((match f s with | some x => enc x | none => zd), ps) := by
  obtain ⟨D, h1, h2, h3⟩ := h
  obtain ⟨v, ps, hr, hv⟩ := h1.look_ok law9 ht hz hzd (key9 hs)
  exact ⟨v, ps, by rw [hr, (h3 s hs).1], by rw [hv, (h3 s hs).2]⟩
end

/-! ### The names that were met. -/
theorem zero4 (w : World) : (zeroValue 4).run Tryd.prog w = .ok (.bool false) w := by kernel_rfl
/-- is a name among these? -/
def inN (l : List ByteArray) (s : ByteArray) : Bool := l.any fun k => decide (k = s)
theorem inN_iff {l : List ByteArray} {s : ByteArray} : inN l s = true ↔ s ∈ l := by unfold inN; simp
theorem inN_app (l m : List ByteArray) (s : ByteArray) : inN (l ++ m) s = (inN l s || inN m s) := by unfold inN; rw [List.any_append]
def encB (x : Bool) : DataW Unit := .lit (.bool x)
/-- a map of names to true -/
def SM (w : World) (B m : Nat) (l : List ByteArray) : Prop := MS (plainElem Tryd.prog 4) encB w B m (fun s => if inN l s = true then some true else none)
set_option maxRecDepth 100000 in
theorem plainB_inv {v : Value} {x : Bool} {ps : List MemPlace} (h : plainElem (H := Unit) Tryd.prog 4 v = some (.lit (.bool x), ps)) : v = .bool x := by
  unfold plainElem at h
  rw [Tryd.underlying4] at h
  cases v <;> simp at h
  rw [h.1]
theorem SM.get {w : World} {B m : Nat} {l : List ByteArray} (h : SM w B m l) {s : ByteArray} (hs : s.size ≤ maxLen) : (Instr.lookup 73 (.map (some B)) (.string s) false).run Tryd.prog w = .ok (.bool (inN l s)) w := by
  obtain ⟨v, ps, hr, hv⟩ := MS.get h Tryd.underlying73 (zero4 _) (plainElem_bool Tryd.underlying4 false) hs
  rw [hr]
  by_cases e : inN l s = true
  · simp only [if_pos e] at hv
    rw [plainB_inv hv, e]
  · simp only [if_neg e] at hv
    rw [Bool.not_eq_true] at e
    rw [plainB_inv hv, e]
theorem SM.put {w : World} {B m : Nat} {l : List ByteArray} (h : SM w B m l) (hm : m ≤ 1000000) {s : ByteArray} (hs : s.size ≤ maxLen) :
    ∃ w', (Instr.mapUpdate 73 (.map (some B)) (.string s) (.bool true)).run Tryd.prog w = .ok () w' ∧ SM w' B (m + 1) (l ++ [s]) ∧ Chg (fun b => b = B) w w' := by
  obtain ⟨w', h1, h2, h3⟩ := MS.put h Tryd.underlying73 hm hs (x := true) (plainElem_bool Tryd.underlying4 true)
  refine ⟨w', h1, ?_, h3⟩
  unfold SM
  have e : (fun k => if inN (l ++ [s]) k = true then some true else none) = fun k => if k = s then some true else if inN l k = true then some true else none := by
    funext k
    rw [inN_app]
    have e0 : inN [s] k = decide (s = k) := by unfold inN; simp
    rw [e0]
    by_cases e1 : k = s
    · simp [e1]
    · have e1' : ¬ s = k := fun h => e1 h.symm
      simp [e1, e1']
  rw [e]
  exact h2
theorem SM.made (w : World) : SM (w.alloc (.map #[] 0)) w.heap.size 0 [] := by
  unfold SM
  have e : (fun k : ByteArray => if inN [] k = true then some true else none) = fun _ => none := by funext k; rfl
  rw [e]
  exact MS.made w

/-- what look says of a name -/
def lookC (l : List ByteArray) (s : ByteArray) : Int := if wordB s = false then 3 else if inN l s = true then 4 else 0

set_option maxRecDepth 100000 in
theorem look_any (B m : Nat) (l : List ByteArray) (hm : m ≤ 1000000) (s : ByteArray) (hs : s.size ≤ maxLen) (w : World) (h : SM w B m l) :
    Calls Tryd.prog 29 #[.map (some B), .string s] w fun e w' => e = .returned (.int .i64 (lookC l s)) ∧ (lookC l s = 0 → SM w' B (m + 1) (l ++ [s])) ∧ Chg (fun b => b = B) w w' := by
  have wd := hide (isWord_any s (by unfold maxLen at hs; omega) w)
  obtain ⟨w2, hr2, hsm2, hg2⟩ := h.put hm hs
  have hg := h.get hs
  have H2 := hide (And.intro hsm2 hg2)
  cases hw : wordB s
  · have E : Hid (lookC l s = 3) := hide (by unfold lookC; rw [if_pos hw])
    rw [hw] at wd
    clear hw h hr2 hsm2 hg2 hg H2
    go_enter Tryd.func29, Tryd.ntmps29
    go_wp2_with fail
    refine wd.out.mono ?_
    rintro e w' ⟨rfl, rfl⟩
    go_wp2_with fail
    go_ret
    exact ⟨by rw [E.out]; rfl, fun h => by rw [E.out] at h; exact absurd h (by decide), Chg.refl _ _⟩
  · rw [hw] at wd
    by_cases he : inN l s = true
    · have E : Hid (lookC l s = 4) := hide (by unfold lookC; rw [if_neg (by rw [hw]; decide), if_pos he])
      rw [he] at hg
      clear hw he h hr2 hsm2 hg2 H2
      go_enter Tryd.func29, Tryd.ntmps29
      go_wp2_with fail
      refine wd.out.mono ?_
      rintro e w' ⟨rfl, rfl⟩
      go_wp2_with fail
      go_ret
      exact ⟨by rw [E.out]; rfl, fun h => by rw [E.out] at h; exact absurd h (by decide), Chg.refl _ _⟩
    · have E : Hid (lookC l s = 0) := hide (by unfold lookC; rw [if_neg (by rw [hw]; decide), if_neg he])
      rw [Bool.not_eq_true] at he
      rw [he] at hg
      clear hw he h hsm2 hg2
      go_enter Tryd.func29, Tryd.ntmps29
      go_wp2_with fail
      refine wd.out.mono ?_
      rintro e w' ⟨rfl, rfl⟩
      go_wp2_with fail
      go_ret
      exact ⟨by rw [E.out]; rfl, fun _ => H2.out.1, H2.out.2⟩
end Go.Proofs.YtdoohocdaacnaaaDoor
