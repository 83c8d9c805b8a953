/- The map of kinds. -/
import Derived.Test.YtdcpcemihpkkaaaClone
import Derived.Maps.OwnSet
import Derived.Maps.Views
namespace Go.Proofs.Ytdcpcemihpkkaaa
open Go.RowKit Go.Maps
set_option linter.unusedVariables false
set_option linter.unusedSimpArgs false

theorem law3 : Keyed Try.prog 3 := int_keyed Try.underlying3
theorem zero3 (w : World) : (zeroValue 3).run Try.prog w = .ok (.int .i64 0) w := by kernel_rfl

/-- in Go's ints' bounds -/
def In64 (n : Int) : Prop := (Lit.int .i64 n).wf = true
theorem in64_bd {n : Int} (h : In64 n) : -9223372036854775808 ≤ n ∧ n ≤ 9223372036854775807 := bounds_i64 h

/-- The block B holds a map that reads as f. -/
def KM (w : World) (B m : Nat) (f : Int → Option Int) : Prop :=
  ∃ D : DataW Unit, w.ownsMap Try.prog 3 (plainElem Try.prog 3) B m D ∧ IsMap D ∧ ∀ x, In64 x → Maps.has D (.int .i64 x) = (f x).isSome ∧ ∀ z, D.atKey (.int .i64 x) (.lit (.int .i64 z)) = .lit (.int .i64 ((f x).getD z))

theorem key3 {x : Int} (h : In64 x) : keyOf Try.prog 3 (.int .i64 x) = some (.int .i64 x) := by
  have hw : (Lit.int .i64 x).wf = true := h
  simp [keyOf, Try.underlying3, mapKey, hw]

set_option maxRecDepth 100000 in
theorem KM.get {w : World} {B m : Nat} {f : Int → Option Int} (h : KM w B m f) {x : Int} (hx : In64 x) : (Instr.lookup 54 (.map (some B)) (.int .i64 x) false).run Try.prog w = .ok (.int .i64 ((f x).getD 0)) w := by
  obtain ⟨D, h1, h2, h3⟩ := h
  obtain ⟨c, hrun, hat, _⟩ := h1.lookup_int law3 Try.underlying54 Try.underlying3 (zero3 _) (key3 hx)
  rw [(h3 x hx).2 0] at hat
  injection hat with e
  injection e with _ e2
  rw [hrun, ← e2]

set_option maxRecDepth 100000 in
theorem KM.ok {w : World} {B m : Nat} {f : Int → Option Int} (h : KM w B m f) {x : Int} (hx : In64 x) : (Instr.lookup 54 (.map (some B)) (.int .i64 x) true).run Try.prog w = .ok (.tuple #[.int .i64 ((f x).getD 0), .bool (f x).isSome]) w := by
  obtain ⟨D, h1, h2, h3⟩ := h
  obtain ⟨v, ps, hrun, hv⟩ := h1.look_ok law3 Try.underlying54 (zero3 _) (plainElem_int Try.underlying3 (by decide)) (key3 hx)
  obtain ⟨c, rfl, hc, _⟩ := plainElem_int_inv Try.underlying3 hv
  have e := congrArg Prod.fst hc
  dsimp only at e
  rw [(h3 x hx).2 0] at e
  injection e with e
  injection e with _ e2
  rw [hrun, (h3 x hx).1, e2]

theorem KM.chg {w w' : World} {B m : Nat} {f : Int → Option Int} (h : KM w B m f) {S : Nat → Prop} (g : Chg S w w') (hn : ¬ S B) : KM w' B m f := by
  obtain ⟨D, h1, h2⟩ := h
  have hlt := h1.lt
  obtain ⟨es, clock, hb, F⟩ := h1
  exact ⟨D, ⟨es, clock, g.blk hn hb, F⟩, h2⟩

theorem KM.lt {w : World} {B m : Nat} {f : Int → Option Int} (h : KM w B m f) : B < w.heap.size := by
  obtain ⟨D, h1, h2⟩ := h
  exact h1.lt

set_option maxRecDepth 100000 in
theorem KM.put {w : World} {B m : Nat} {f : Int → Option Int} (h : KM w B m f) (hm : m ≤ 1000000) {x y : Int} (hx : In64 x) (hy : In64 y) :
    ∃ w', (Instr.mapUpdate 54 (.map (some B)) (.int .i64 x) (.int .i64 y)).run Try.prog w = .ok () w' ∧ KM w' B (m + 1) (fun k => if k = x then some y else f k) ∧ Chg (fun b => b = B) w w' := by
  obtain ⟨D, h1, h2, h3⟩ := h
  obtain ⟨w', hrun, hown, hgrow⟩ := h1.update law3 Try.underlying54 (by unfold maxLen; omega) (key3 hx) (plainElem_int Try.underlying3 hy)
  refine ⟨w', hrun, ⟨_, hown, h2.put _ _, fun k hk => ?_⟩, ⟨hgrow.os, hgrow.tape, hgrow.output, hgrow.size, fun i hi hn => hgrow.block i hi (fun e => hn (by injection e))⟩⟩
  by_cases e : k = x
  · subst e
    have hkl := law3.key (key3 hx)
    simp only [if_true]
    exact ⟨has_put_same h2 hkl _, fun z => atKey_put_same h2 hkl _ _⟩
  · have hne : (Lit.int .i64 k) ≠ (Lit.int .i64 x) := fun h => e (by injection h)
    simp only [if_neg e]
    rw [has_put_other hne]
    refine ⟨(h3 k hk).1, fun z => ?_⟩
    rw [atKey_put_other hne]
    exact (h3 k hk).2 z

theorem KM.made (w : World) : KM (w.alloc (.map #[] 0)) w.heap.size 0 (fun _ => none) :=
  ⟨_, World.ownsMap_made _ _ _ _, ⟨[], rfl⟩, fun x hx => ⟨rfl, fun z => rfl⟩⟩

/-- the kind of a constant, if it has one -/
def kindOf (rs : List (Int × Int)) (x : Int) : Option Int := (rs.find? (fun s => s.1 == x)).map (·.2)

theorem kindOf_take (rs : List (Int × Int)) (k : Nat) (h : k < rs.length) (hno : kindOf (rs.take k) rs[k].1 = none) (x : Int) : kindOf (rs.take (k + 1)) x = if x = rs[k].1 then some rs[k].2 else kindOf (rs.take k) x := by
  unfold kindOf at *
  rw [List.take_succ_eq_append_getElem h, List.find?_append]
  by_cases e : x = rs[k].1
  · subst e
    rw [if_pos rfl]
    have h0 : (rs.take k).find? (fun s => s.1 == rs[k].1) = none := by simpa using hno
    rw [h0]
    simp
  · rw [if_neg e]
    have e' : ¬ rs[k].1 = x := fun h => e h.symm
    simp [e']

theorem Status_some (b B m : Nat) (f : Int → Option Int) (x : Int) (hx : In64 x) (w : World) (h : w.cell? ⟨b, 2, none⟩ = some (.map (some B))) (hk : KM w B m f) :
    Calls Try.prog 15 #[.pointer (some ⟨b, 0, none⟩), .int .i64 x] w fun e w' => e = .returned (.int .i64 ((f x).getD 0)) ∧ w = w' := by
  have hg := hk.get hx
  clear hk
  go_enter Try.func15, Try.ntmps15
  go_wp2_with fail
  go_ret
  exact ⟨rfl, rfl⟩

theorem Status_nil (x : Int) (w : World) : Calls Try.prog 15 #[.pointer none, .int .i64 x] w fun e w' => e = .returned (.int .i64 0) ∧ w = w' := by
  go_enter Try.func15, Try.ntmps15
  go_wp2_with fail
  go_ret
  exact ⟨rfl, rfl⟩

end Go.Proofs.Ytdcpcemihpkkaaa
