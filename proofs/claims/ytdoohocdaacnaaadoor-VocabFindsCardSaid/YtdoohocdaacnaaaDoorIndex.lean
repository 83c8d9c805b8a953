/- An index in memory; vocab.New. -/
import Derived.Test.YtdoohocdaacnaaaDoorOnce
namespace Go.Proofs.YtdoohocdaacnaaaDoor
open Go.RowKit Go.Maps
set_option linter.unusedVariables false
set_option linter.unusedSimpArgs false

/-! ### The map of entries. -/
def entElem (v : Value) : Option (DataW Unit × List MemPlace) :=
  match v with
  | .agg cs => (match cs.toList with
    | [.bool x, .int .i64 n] => some (.agg [.lit (.bool x), .lit (.int .i64 n)], [])
    | _ => none)
  | _ => none
def encE (x : Bool × Int) : DataW Unit := .agg [.lit (.bool x.1), .lit (.int .i64 x.2)]
theorem entElem_mk (x : Bool) (n : Int) : entElem (.agg #[.bool x, .int .i64 n]) = some (encE (x, n), []) := rfl
theorem entElem_inv {v : Value} {x : Bool × Int} {ps : List MemPlace} (h : entElem v = some (encE x, ps)) : v = .agg #[.bool x.1, .int .i64 x.2] := by
  unfold entElem at h
  split at h
  · rename_i cs
    split at h
    · rename_i y n e
      unfold encE at h
      simp at h
      obtain ⟨⟨h1, h2⟩, _⟩ := h
      congr 1
      apply Array.toList_inj.1
      rw [e, h1, h2]
    · cases h
  · cases h

abbrev Nm := ByteArray → Option (Bool × Int)
/-- The block B holds the map of the names f. -/
def EM (w : World) (B m : Nat) (f : Nm) : Prop := MS entElem encE w B m f
theorem zero99 (w : World) : (zeroValue 99).run Tryd.prog w = .ok (.agg #[.bool false, .int .i64 0]) w := by kernel_rfl
theorem EM.chg {w w' : World} {B m : Nat} {f : Nm} (h : EM w B m f) {S : Nat → Prop} (g : Chg S w w') (hn : ¬ S B) : EM w' B m f := MS.chg h g hn
theorem EM.lt {w : World} {B m : Nat} {f : Nm} (h : EM w B m f) : B < w.heap.size := MS.lt h
theorem EM.made (w : World) : EM (w.alloc (.map #[] 0)) w.heap.size 0 (fun _ => none) := MS.made w
theorem EM.put {w : World} {B m : Nat} {f : Nm} (h : EM w B m f) (hm : m ≤ 1000000) {s : ByteArray} (hs : s.size ≤ maxLen) (x : Bool) (n : Int) :
    ∃ w', (Instr.mapUpdate 92 (.map (some B)) (.string s) (.agg #[.bool x, .int .i64 n])).run Tryd.prog w = .ok () w' ∧ EM w' B (m + 1) (fun k => if k = s then some (x, n) else f k) ∧ Chg (fun b => b = B) w w' :=
  MS.put h Tryd.underlying92 hm hs (x := (x, n)) (entElem_mk x n)
theorem EM.ok {w : World} {B m : Nat} {f : Nm} (h : EM w B m f) {s : ByteArray} (hs : s.size ≤ maxLen) :
    (Instr.lookup 92 (.map (some B)) (.string s) true).run Tryd.prog w = .ok (.tuple #[.agg #[.bool ((f s).getD (false, 0)).1, .int .i64 ((f s).getD (false, 0)).2], .bool (f s).isSome]) w := by
  obtain ⟨v, ps, hr, hv⟩ := MS.ok h Tryd.underlying92 (zero99 w) (entElem_mk false 0) hs
  rw [hr]
  have hv' : entElem v = some (encE ((f s).getD (false, 0)), ps) := by
    rw [hv]; cases f s <;> rfl
  rw [entElem_inv hv']

/-- the names of the first k bases -/
def eB (bs : List ByteArray) : Nat → Nm
  | 0 => fun _ => none
  | i + 1 => fun k => if k = bs.getD i ByteArray.empty then some (true, (i : Int)) else eB bs i k
/-- .. and of the first k constants -/
def eC (bs : List ByteArray) (cs : List Cn) : Nat → Nm
  | 0 => eB bs bs.length
  | i + 1 => fun k => if k = (cs.getD i (ByteArray.empty, Fs.nil, 0)).1 then some (false, (i : Int)) else eC bs cs i k

/-- The block b holds an index of these bases and constants, whose rows lie from L on. -/
def Xs (w : World) (L b : Nat) (bs : List ByteArray) (cs : List Cn) : Prop :=
  L ≤ b ∧ ∃ bv cv d nm, Ix w b bv cv d 0 nm ∧ Strs w (fun x => L ≤ x ∧ x < b) bv bs ∧ Cns w (fun x => L ≤ x ∧ x < b) cv cs ∧
    ((d = 0 ∧ nm = .map none) ∨ (d = 1 ∧ ∃ B m, nm = .map (some B) ∧ b < B ∧ EM w B m (eC bs cs cs.length)))
theorem Xs.lt {w : World} {L b : Nat} {bs : List ByteArray} {cs : List Cn} (h : Xs w L b bs cs) : b < w.heap.size := by
  obtain ⟨_, _, _, _, _, h1, _⟩ := h
  exact h1.lt
theorem Xs.chg {w w' : World} {L b : Nat} {bs : List ByteArray} {cs : List Cn} (h : Xs w L b bs cs) {S : Nat → Prop} (g : Chg S w w') (hn : ∀ x, L ≤ x → ¬ S x) : Xs w' L b bs cs := by
  obtain ⟨h0, bv, cv, d, nm, h1, h2, h3, h4⟩ := h
  refine ⟨h0, bv, cv, d, nm, h1.chg g (hn b h0), h2.chg g (fun x hx => hn x hx.1), h3.chg g (fun x hx => hn x hx.1), ?_⟩
  rcases h4 with h4 | ⟨h5, B, m, h6, h7, h8⟩
  · exact Or.inl h4
  · exact Or.inr ⟨h5, B, m, h6, h7, h8.chg g (hn B (by omega))⟩

/-- What New gives. -/
def NewPost (bs : List ByteArray) (cs : List Cn) (w : World) (e : Ending) (w' : World) : Prop :=
  ((checkT bs cs ≠ 0 ∧ e = .returned (.tuple #[.pointer none, .int .i64 (checkT bs cs)])) ∨
   (checkT bs cs = 0 ∧ ∃ L b, e = .returned (.tuple #[.pointer (some ⟨b, 0, none⟩), .int .i64 0]) ∧ w.heap.size ≤ L ∧ Xs w' L b bs cs)) ∧
  Chg (fun _ => False) w w'

theorem checkT_len {bs : List ByteArray} {cs : List Cn} (h : checkT bs cs = 0) : bs.length ≤ 1000 ∧ cs.length + bs.length ≤ 1000 := by
  unfold checkT at h
  split at h
  · exact absurd h (by decide)
  · omega

theorem made_ix {w : World} {bv cv : Value} {L : Nat} {bs : List ByteArray} {cs : List Cn} (hL : L ≤ w.heap.size) (hb : Strs w (fun x => L ≤ x ∧ x < w.heap.size) bv bs) (hc : Cns w (fun x => L ≤ x ∧ x < w.heap.size) cv cs) :
    Xs (w.alloc (.cells #[bv, cv, .int .u32 0, .int .i32 0, .int .u32 0, .map none] 94)) L w.heap.size bs cs ∧ Chg (fun _ => False) w (w.alloc (.cells #[bv, cv, .int .u32 0, .int .i32 0, .int .u32 0, .map none] 94)) :=
  ⟨⟨hL, bv, cv, 0, .map none, blk_new w _, hb.chg (al w _) (fun _ _ h => h), hc.chg (al w _) (fun _ _ h => h), Or.inl ⟨rfl, rfl⟩⟩, al w _⟩

set_option maxRecDepth 100000 in
set_option maxHeartbeats 16000000 in
theorem new_any (bs : List ByteArray) (cs : List Cn) (bv cv : Value) (X : Nat → Prop) (w : World) (hX : ∀ x, X x → x < w.heap.size) (hb : Strs w X bv bs) (hc : Cns w X cv cs) :
    Calls Tryd.prog 13 #[.agg #[bv, cv]] w (NewPost bs cs w) := by
  have C1 := hide (al w (.cells #[bv, cv] 26))
  have BX := blk_new w (.cells #[bv, cv] 26)
  have HB1 := hide (hb.chg C1.out (fun _ _ h => h))
  have HC1 := hide (hc.chg C1.out (fun _ _ h => h))
  have HX1 := hide (fun x (hx : X x) => Nat.lt_of_lt_of_le (hX x hx) C1.out.size)
  have ck := hide (check_any bs cs bv cv X _ HX1.out HB1.out HC1.out)
  have WL := hide (al_size w (.cells #[bv, cv] 26))
  obtain ⟨w1, hw1⟩ : ∃ w1, w.alloc (.cells #[bv, cv] 26) = w1 := ⟨_, rfl⟩
  rw [hw1] at C1 BX HB1 HC1 HX1 ck WL
  obtain ⟨b0, hb0⟩ : ∃ b0, w.heap.size = b0 := ⟨_, rfl⟩
  have HB0 := hide hb0
  rw [hb0] at BX
  have k0 := blk_cell BX 0
  have k1 := blk_cell BX 1
  simp only [List.getElem?_toArray, List.getElem?_cons_zero, List.getElem?_cons_succ] at k0 k1
  have HBX := hide BX
  have lb0 := blk_lt BX
  obtain ⟨R, hR⟩ : ∃ R, checkT bs cs = R := ⟨_, rfl⟩
  rw [hR] at ck
  have HR := hide hR
  clear hb hc hX hR BX
  by_cases h0 : R = 0
  · subst h0
    have ln := hide (checkT_len HR.out)
    have vc := hide (fun w2 h h2 h3 => vcopied_any bs cs (by have := ln.out; omega) (by have := ln.out; omega) bv cv X w2 h h2 h3)
    go_enter Tryd.func13, Tryd.ntmps13
    go_wp2_with fail
    clear hb0 hw1
    refine ck.out.mono ?_
    rintro e w2 ⟨rfl, g2⟩
    have K2 := hide (And.intro (g2.cell (fun h => h) k0) (g2.cell (fun h => h) k1))
    have C2 := hide (C1.out.trans g2)
    have HB2 := hide (HB1.out.chg g2 (fun _ _ h => h))
    have HC2 := hide (HC1.out.chg g2 (fun _ _ h => h))
    have HX2 := hide (fun x (hx : X x) => Nat.lt_of_lt_of_le (HX1.out x hx) g2.size)
    have W2 := hide g2.size
    clear g2 ck k0 k1
    obtain ⟨k0, k1⟩ := K2.out
    go_wp2_with fail
    refine (vc.out _ HX2.out HB2.out HC2.out).mono ?_
    rintro e w3 ⟨⟨bv', cv', rfl, hb3, hc3⟩, g3⟩
    have M3 := hide (made_ix g3.size hb3 hc3)
    have C3 := hide (C2.out.trans g3)
    have W3 : Hid (w.heap.size ≤ w2.heap.size) := hide C2.out.size
    clear hb3 hc3 g3 k0 k1 K2
    go_wp2_with fail
    go_ret2
    exact ⟨Or.inr ⟨HR.out, w2.heap.size, _, rfl, W3.out, M3.out.1⟩, C3.out.trans M3.out.2⟩
  · have F : Hid (∀ w', Chg (fun _ => False) w w' → NewPost bs cs w (.returned (.tuple #[.pointer none, .int .i64 R])) w') := hide (fun w' g => ⟨Or.inl ⟨by rw [HR.out]; exact h0, by rw [HR.out]⟩, g⟩)
    go_enter Tryd.func13, Tryd.ntmps13
    go_wp2_with fail
    clear hb0 hw1
    refine ck.out.mono ?_
    rintro e w2 ⟨rfl, g2⟩
    have C2 := hide (C1.out.trans g2)
    clear g2 ck
    go_wp2_with fail
    go_ret2
    exact F.out _ C2.out
end Go.Proofs.YtdoohocdaacnaaaDoor
