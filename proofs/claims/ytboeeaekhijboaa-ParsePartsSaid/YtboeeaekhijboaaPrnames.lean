/- The names within a tree: the document's. -/
import Derived.Test.YtboeeaekhijboaaPfew
import Derived.Test.YtboeeaekhijboaaPitems
import Derived.Deep.CutBlock
namespace Go.Proofs.Ytboeeaekhijboaa
open Go.RowKit
set_option linter.unusedVariables false
set_option linter.unusedSimpArgs false

/-- is the word among those? -/
def inW : List ByteArray → ByteArray → Bool
  | [], _ => false
  | x :: l, s => (x.toList == s.toList) || inW l s
def addW (l : List ByteArray) (s : ByteArray) : List ByteArray := if inW l s = true then l else l ++ [s]
theorem inW_snoc : ∀ (l : List ByteArray) (x s : ByteArray), inW (l ++ [x]) s = (inW l s || (x.toList == s.toList))
  | [], x, s => by simp [inW]
  | y :: l, x, s => by simp only [List.cons_append, inW, inW_snoc l x s, Bool.or_assoc]
/-- the names of a row, behind those that were met -/
def nmsR : Ns → List ByteArray → List ByteArray
  | .nil, l => l
  | .cons k s a x r, l => nmsR r (nmsR x (if (k == 1) = true then addW l s else l))
def nmsN (k : Int) (s : ByteArray) (f : Ns) (l : List ByteArray) : List ByteArray := nmsR f (if (k == 1) = true then addW l s else l)
theorem addW_ge (l : List ByteArray) (s : ByteArray) : l.length ≤ (addW l s).length := by unfold addW; split <;> simp
theorem addW_le (l : List ByteArray) (s : ByteArray) : (addW l s).length ≤ l.length + 1 := by unfold addW; split <;> simp
theorem nmsR_ge : ∀ (f : Ns) (l : List ByteArray), l.length ≤ (nmsR f l).length
  | .nil, l => Nat.le_refl _
  | .cons k s a x r, l => by
    simp only [nmsR]
    refine Nat.le_trans ?_ (nmsR_ge r _)
    refine Nat.le_trans ?_ (nmsR_ge x _)
    split
    · exact addW_ge l s
    · exact Nat.le_refl _
theorem nmsR_le : ∀ (f : Ns) (l : List ByteArray), (nmsR f l).length ≤ l.length + f.size
  | .nil, l => Nat.le_refl _
  | .cons k s a x r, l => by
    simp only [nmsR, Ns.size]
    have h1 := nmsR_le r (nmsR x (if (k == 1) = true then addW l s else l))
    have h2 := nmsR_le x (if (k == 1) = true then addW l s else l)
    have h3 := addW_le l s
    split at h1 <;> split at h2 <;> simp_all <;> omega
theorem nmsN_le (k : Int) (s : ByteArray) (f : Ns) (l : List ByteArray) : (nmsN k s f l).length ≤ l.length + 1 + f.size := by
  unfold nmsN
  have h1 := nmsR_le f (if (k == 1) = true then addW l s else l)
  have h2 := addW_le l s
  split at h1
  · rename_i h; rw [if_pos h]; omega
  · rename_i h; rw [if_neg h]; omega
theorem own_grow_chgS {w1 w2 : World} {base : Nat} {e : TypeId} {size n : Nat} {v : Value} {xs : List Value} (h : w1.ownsRow base e size v n xs) (hg : w1.grownBy w2 v.ownBlock) : Chg (fun x => v.ownBlock = some x) w1 w2 :=
  (Chg.refl (fun x => v.ownBlock = some x) w1).grown hg (fun r e => Or.inl e)
def RnPost (B : Nat) (v : Value) (l' : List ByteArray) (w : World) (e : Ending) (w' : World) : Prop :=
  ∃ v', e = .returned v' ∧ Hid (w'.ownsRow B 9 1 v' l'.length (l'.map .string)) ∧ Hid (Chg (fun x => v.ownBlock = some x) w w') ∧ Hid (∀ r, v'.ownBlock = some r → v.ownBlock = some r ∨ w.heap.size ≤ r)
def RnC (f : Ns) : Prop := ∀ (l : List ByteArray) (k : Int) (s : ByteArray) (a : Int) (v u : Value) (X : Nat → Prop) (B : Nat) (w : World), l.length + f.size ≤ 900000 → (∀ x, X x → x < B) → B ≤ w.heap.size → Ts w X v f → w.ownsRow B 9 1 u l.length (l.map .string) →
  Calls Try.prog 23 #[u, .agg #[.int .i64 k, .string s, .int .i64 a, v]] w (RnPost B u (nmsN k s f l) w)
/-- what the second loop keeps -/
def RnInv (w1 wr : World) (B : Nat) (u0 u : Value) (f : Ns) (i : Nat) (l R : List ByteArray) : Prop :=
  Hid (wr.ownsRow B 9 1 u l.length (l.map .string)) ∧ Hid (Chg (fun x => u0.ownBlock = some x) w1 wr) ∧ Hid (∀ r, u.ownBlock = some r → u0.ownBlock = some r ∨ w1.heap.size ≤ r) ∧ Hid (nmsR (f.drop i) l = R) ∧ Hid (l.length + (f.drop i).size ≤ 900001)
theorem infoW9 : (Try.prog.info? 9).map (fun i => (i.zero, i.size, i.bytes)) = some (some (.string ⟨#[]⟩), 1, 16) := by kernel_rfl
theorem row_cell {w : World} {B : Nat} {v : Value} {l : List ByteArray} (h : w.ownsRow B 9 1 v l.length (l.map .string)) : ∃ a c, v = .slice a l.length c ∧ (l = [] ∨ ∃ g, a = some ⟨g, 0, none⟩ ∧ v.ownBlock = some g ∧ ∀ i (hi : i < l.length), w.cell? ⟨g, 0 + i, none⟩ = some (.string l[i])) := by
  obtain ⟨h1, h2⟩ := id h
  rcases h2 with ⟨rfl, h3⟩ | ⟨g, cap, cur, rfl, h3⟩
  · exact ⟨none, 0, by rw [h3], Or.inl (List.eq_nil_of_length_eq_zero h3)⟩
  · refine ⟨_, _, rfl, Or.inr ⟨g, rfl, rfl, fun i hi => ?_⟩⟩
    have hc := World.ownsRow.cells h (g := g) rfl
    have := hc i (.string l[i]) (by simp [hi])
    rw [add_at'] at this
    exact this

set_option maxRecDepth 100000 in
set_option maxHeartbeats 32000000 in
theorem rnames_step (n : Nat) (ih : ∀ f : Ns, f.size < n → RnC f) (f : Ns) (hf : f.size ≤ n) : RnC f := by
  intro l k s a v u X B w hsz hX hB hv ho
  obtain ⟨i0, hi0, hz0, hz1, hz2⟩ := info_parts infoW9
  have IH := hide ih
  have HF := hide hf
  have HX := hide hX
  have HSZ := hide hsz
  have HBW := hide hB
  obtain ⟨R, hR⟩ : ∃ R, nmsN k s f l = R := ⟨_, rfl⟩
  rw [hR]
  have HR : Hid (nmsR f (if (k == 1) = true then addW l s else l) = R) := hide hR
  obtain ⟨av, cap, rfl, _⟩ := id hv
  obtain ⟨ua, uc, rfl, hrow⟩ := row_cell ho
  have HROW := hide hrow
  have HV := hide hv
  have htl := Ns.toL_len f
  have G1 := al w (.cells #[.int .i64 k, .string s, .int .i64 a, .slice av f.len cap] 55)
  have BP := hide (blk_new w (.cells #[.int .i64 k, .string s, .int .i64 a, .slice av f.len cap] 55))
  have GG := hide G1
  have OO := hide (own_chgS ho G1 (fun _ _ h => h))
  have OL := hide (fun r (e : (Value.slice ua l.length uc).ownBlock = some r) => World.ownsRow.lt ho r e)
  have SZ1 := hide (al_sz w (.cells #[.int .i64 k, .string s, .int .i64 a, .slice av f.len cap] 55))
  clear hv G1 hR hf ih hsz hX hB ho hrow
  go_enter Try.func23, Try.ntmps23
  go_upto_if 10 with fail
  generalize (w.alloc (.cells #[.int .i64 k, .string s, .int .i64 a, .slice av f.len cap] 55)) = w1 at *
  obtain ⟨P, hP⟩ : ∃ P, w.heap.size = P := ⟨_, rfl⟩
  have HP : Hid (w.heap.size = P ∧ w1.heap.size = P + 1) := hide ⟨hP, by rw [SZ1.out, hP]⟩
  rw [hP] at BP ⊢
  clear hP SZ1
  obtain ⟨l2, hl2⟩ : ∃ l2, (if (k == 1) = true then addW l s else l) = l2 := ⟨_, rfl⟩
  have HL2 := hide hl2
  have HL2L : Hid (l.length ≤ 900000) := hide (by have := HSZ.out; omega)
  rw [hl2] at HR
  clear hl2
  go_cut [0] (fun s0 wx => ∃ u2, s0 = u2 ∧ Hid (wx.ownsRow B 9 1 u2 l2.length (l2.map .string)) ∧ Hid (Chg (fun x => (Value.slice ua l.length uc).ownBlock = some x) w1 wx) ∧ Hid (∀ r, u2.ownBlock = some r → (Value.slice ua l.length uc).ownBlock = some r ∨ w1.heap.size ≤ r))
  case first =>
    clear HV IH HR
    have p0 : w1.cell? ⟨P, 0, none⟩ = some (.int .i64 k) := blk_cell BP.out 0
    cases e1 : (k == 1)
    · have E2 : Hid (l2 = l) := hide (by rw [← HL2.out, e1]; rfl)
      have OO2 : Hid (w1.ownsRow B 9 1 (.slice ua l.length uc) l2.length (l2.map .string)) := hide (by rw [E2.out]; exact OO.out)
      clear OO
      go_wp2_with fail
      go_meet
      exact ⟨_, rfl, OO2, hide (Chg.refl _ _), hide (fun r h => Or.inl h)⟩
    · have E2 : Hid (l2 = addW l s) := hide (by rw [← HL2.out, e1]; rfl)
      have p1 : w1.cell? ⟨P, 1, none⟩ = some (.string s) := blk_cell BP.out 1
      go_upto_block 0 with fail
      clear p0
      go_wp2_with fail
      clear p1
      go_loopw [5, 6] (fun bv iv wr => ∃ (i : Nat), i ≤ l.length ∧ bv = .bool (inW (l.take i) s) ∧ iv = .int .i64 i ∧ Hid (Chg (fun _ => False) w1 wr)) (fun _ iv _ => l.length - (intOf iv).toNat)
      case atStart => exact ⟨0, Nat.zero_le _, rfl, rfl, hide (Chg.refl _ _)⟩
      case round =>
        obtain ⟨i, hi, rfl, rfl, GR⟩ := hrel
        have p1 : wr.cell? ⟨P, 1, none⟩ = some (.string s) := GR.out.cell (fun h => h) (blk_cell BP.out 1)
        by_cases hlt : i < l.length
        · have i1 : (0 : Int) ≤ (i : Int) := by omega
          have i2 : (i : Int) < (l.length : Int) := by omega
          have i3 : l.length ≤ 900000 := HL2L.out
          obtain ⟨g, rfl, hcell⟩ : ∃ g, ua = some ⟨g, 0, none⟩ ∧ wr.cell? ⟨g, i, none⟩ = some (.string l[i]) := by
            rcases HROW.out with h | ⟨g, e, _, h⟩
            · rw [h] at hlt; exact absurd hlt (Nat.not_lt_zero _)
            · exact ⟨g, e, by have h' := h i hlt; rw [Nat.zero_add] at h'; exact (GG.out.trans GR.out).cell (fun h => h) h'⟩
          have ST : Hid (inW (l.take (i + 1)) s = (inW (l.take i) s || (l[i].toList == s.toList))) := hide (by rw [List.take_succ_eq_append_getElem hlt, inW_snoc])
          generalize l[i] = x at *
          generalize inW (l.take i) s = b at *
          go_wp2_with fail
          cases b
          · obtain ⟨c, hc⟩ : ∃ c, (x.toList == s.toList) = c := ⟨_, rfl⟩
            have ST2 : Hid (inW (l.take (i + 1)) s = c) := hide (by rw [ST.out, hc]; rfl)
            clear ST
            refine wp_region_held_drew (S := (fun w' => w'.cell? ⟨P, 1, none⟩ = some (.string s) ∧ w'.cell? ⟨g, i, none⟩ = some (.string x))) (by kernel_rfl) (by go_keep) (fun hHeld => ?_)
            first
              | (refine wpAnyH_take (i := 0) (v := undef) rfl (by kernel_rfl) (by kernel_rfl) (by kernel_rfl) (fun _ _ _ h => h) (Or.inr ⟨by rfl, rfl⟩) (by assumption) ?_)
              | (refine wpAnyH_take (i := 0) (v := ?_) rfl (by kernel_rfl) (by kernel_rfl) (by kernel_rfl) (fun _ _ _ h => h) (Or.inl ⟨by rfl, ?_⟩) (by assumption) ?_
                 rotate_left
                 (intro w hSw
                  (try dsimp only at hSw)
                  (go_simp <;> with_reducible rfl)))
            try simp only [Act.put, List.getElem_toArray, List.getElem_cons_zero, List.getElem_cons_succ, List.setIfInBounds_toArray, List.set_cons_zero, List.set_cons_succ]
            first
              | (refine wpAnyH_take (i := 1) (v := undef) rfl (by kernel_rfl) (by kernel_rfl) (by kernel_rfl) (fun _ _ _ h => h) (Or.inr ⟨by rfl, rfl⟩) (by assumption) ?_)
              | (refine wpAnyH_take (i := 1) (v := ?_) rfl (by kernel_rfl) (by kernel_rfl) (by kernel_rfl) (fun _ _ _ h => h) (Or.inl ⟨by rfl, ?_⟩) (by assumption) ?_
                 rotate_left
                 (intro w hSw
                  (try dsimp only at hSw)
                  (go_simp <;> with_reducible rfl)))
            try simp only [Act.put, List.getElem_toArray, List.getElem_cons_zero, List.getElem_cons_succ, List.setIfInBounds_toArray, List.set_cons_zero, List.set_cons_succ]
            first
              | (refine wpAnyH_take (i := 2) (v := undef) rfl (by kernel_rfl) (by kernel_rfl) (by kernel_rfl) (fun _ _ _ h => h) (Or.inr ⟨by rfl, rfl⟩) (by assumption) ?_)
              | (refine wpAnyH_take (i := 2) (v := ?_) rfl (by kernel_rfl) (by kernel_rfl) (by kernel_rfl) (fun _ _ _ h => h) (Or.inl ⟨by rfl, ?_⟩) (by assumption) ?_
                 rotate_left
                 (intro w hSw
                  (try dsimp only at hSw)
                  (go_simp <;> with_reducible rfl)))
            try simp only [Act.put, List.getElem_toArray, List.getElem_cons_zero, List.getElem_cons_succ, List.setIfInBounds_toArray, List.set_cons_zero, List.set_cons_succ]
            first
              | (refine wpAnyH_take (i := 3) (v := undef) rfl (by kernel_rfl) (by kernel_rfl) (by kernel_rfl) (fun _ _ _ h => h) (Or.inr ⟨by rfl, rfl⟩) (by assumption) ?_)
              | (refine wpAnyH_take (i := 3) (v := ?_) rfl (by kernel_rfl) (by kernel_rfl) (by kernel_rfl) (fun _ _ _ h => h) (Or.inl ⟨by rfl, ?_⟩) (by assumption) ?_
                 rotate_left
                 (intro w hSw
                  (try dsimp only at hSw)
                  (go_simp <;> with_reducible rfl)))
            try simp only [Act.put, List.getElem_toArray, List.getElem_cons_zero, List.getElem_cons_succ, List.setIfInBounds_toArray, List.set_cons_zero, List.set_cons_succ]
            first
              | (refine wpAnyH_take (i := 4) (v := undef) rfl (by kernel_rfl) (by kernel_rfl) (by kernel_rfl) (fun _ _ _ h => h) (Or.inr ⟨by rfl, rfl⟩) (by assumption) ?_)
              | (refine wpAnyH_take (i := 4) (v := ?_) rfl (by kernel_rfl) (by kernel_rfl) (by kernel_rfl) (fun _ _ _ h => h) (Or.inl ⟨by rfl, ?_⟩) (by assumption) ?_
                 rotate_left
                 (intro w hSw
                  (try dsimp only at hSw)
                  (go_simp <;> with_reducible rfl)))
            try simp only [Act.put, List.getElem_toArray, List.getElem_cons_zero, List.getElem_cons_succ, List.setIfInBounds_toArray, List.set_cons_zero, List.set_cons_succ]
            first
              | (refine wpAnyH_take (i := 5) (v := undef) rfl (by kernel_rfl) (by kernel_rfl) (by kernel_rfl) (fun _ _ _ h => h) (Or.inr ⟨by rfl, rfl⟩) (by assumption) ?_)
              | (refine wpAnyH_take (i := 5) (v := ?_) rfl (by kernel_rfl) (by kernel_rfl) (by kernel_rfl) (fun _ _ _ h => h) (Or.inl ⟨by rfl, ?_⟩) (by assumption) ?_
                 rotate_left
                 (intro w hSw
                  (try dsimp only at hSw)
                  (go_simp <;> with_reducible rfl)))
            try simp only [Act.put, List.getElem_toArray, List.getElem_cons_zero, List.getElem_cons_succ, List.setIfInBounds_toArray, List.set_cons_zero, List.set_cons_succ]
            first
              | (refine wpAnyH_take (i := 6) (v := undef) rfl (by kernel_rfl) (by kernel_rfl) (by kernel_rfl) (fun _ _ _ h => h) (Or.inr ⟨by rfl, rfl⟩) (by assumption) ?_)
              | (refine wpAnyH_take (i := 6) (v := ?_) rfl (by kernel_rfl) (by kernel_rfl) (by kernel_rfl) (fun _ _ _ h => h) (Or.inl ⟨by rfl, ?_⟩) (by assumption) ?_
                 rotate_left
                 (intro w hSw
                  (try dsimp only at hSw)
                  (go_simp <;> with_reducible rfl)))
            try simp only [Act.put, List.getElem_toArray, List.getElem_cons_zero, List.getElem_cons_succ, List.setIfInBounds_toArray, List.set_cons_zero, List.set_cons_succ]
            first
              | (refine wpAnyH_take (i := 7) (v := undef) rfl (by kernel_rfl) (by kernel_rfl) (by kernel_rfl) (fun _ _ _ h => h) (Or.inr ⟨by rfl, rfl⟩) (by assumption) ?_)
              | (refine wpAnyH_take (i := 7) (v := ?_) rfl (by kernel_rfl) (by kernel_rfl) (by kernel_rfl) (fun _ _ _ h => h) (Or.inl ⟨by rfl, ?_⟩) (by assumption) ?_
                 rotate_left
                 (intro w hSw
                  (try dsimp only at hSw)
                  (go_simp <;> with_reducible rfl)))
            try simp only [Act.put, List.getElem_toArray, List.getElem_cons_zero, List.getElem_cons_succ, List.setIfInBounds_toArray, List.set_cons_zero, List.set_cons_succ]
            first
              | (refine wpAnyH_take (i := 8) (v := undef) rfl (by kernel_rfl) (by kernel_rfl) (by kernel_rfl) (fun _ _ _ h => h) (Or.inr ⟨by rfl, rfl⟩) (by assumption) ?_)
              | (refine wpAnyH_take (i := 8) (v := ?_) rfl (by kernel_rfl) (by kernel_rfl) (by kernel_rfl) (fun _ _ _ h => h) (Or.inl ⟨by rfl, ?_⟩) (by assumption) ?_
                 rotate_left
                 (intro w hSw
                  (try dsimp only at hSw)
                  (go_simp <;> with_reducible rfl)))
            try simp only [Act.put, List.getElem_toArray, List.getElem_cons_zero, List.getElem_cons_succ, List.setIfInBounds_toArray, List.set_cons_zero, List.set_cons_succ]
            first
              | (refine wpAnyH_take (i := 9) (v := undef) rfl (by kernel_rfl) (by kernel_rfl) (by kernel_rfl) (fun _ _ _ h => h) (Or.inr ⟨by rfl, rfl⟩) (by assumption) ?_)
              | (refine wpAnyH_take (i := 9) (v := ?_) rfl (by kernel_rfl) (by kernel_rfl) (by kernel_rfl) (fun _ _ _ h => h) (Or.inl ⟨by rfl, ?_⟩) (by assumption) ?_
                 rotate_left
                 (intro w hSw
                  (try dsimp only at hSw)
                  (go_simp <;> with_reducible rfl)))
            try simp only [Act.put, List.getElem_toArray, List.getElem_cons_zero, List.getElem_cons_succ, List.setIfInBounds_toArray, List.set_cons_zero, List.set_cons_succ]
            first
              | (refine wpAnyH_take (i := 10) (v := undef) rfl (by kernel_rfl) (by kernel_rfl) (by kernel_rfl) (fun _ _ _ h => h) (Or.inr ⟨by rfl, rfl⟩) (by assumption) ?_)
              | (refine wpAnyH_take (i := 10) (v := ?_) rfl (by kernel_rfl) (by kernel_rfl) (by kernel_rfl) (fun _ _ _ h => h) (Or.inl ⟨by rfl, ?_⟩) (by assumption) ?_
                 rotate_left
                 (intro w hSw
                  (try dsimp only at hSw)
                  (go_simp <;> with_reducible rfl)))
            try simp only [Act.put, List.getElem_toArray, List.getElem_cons_zero, List.getElem_cons_succ, List.setIfInBounds_toArray, List.set_cons_zero, List.set_cons_succ]
            refine wpAnyH_done (by kernel_rfl) ?_ _
            have GD := hide GR.out.drew
            go_wp2_with fail
            go_roundw
            case rel => exact ⟨i + 1, by omega, by rw [ST2.out], by go_num, GD⟩
            case measure => simp [intOf]; omega
          · have ST2 : Hid (inW (l.take (i + 1)) s = true) := hide (by rw [ST.out]; rfl)
            clear ST
            refine wp_region_held_drew (S := (fun _ => True)) (by kernel_rfl) trivial (fun hHeld => ?_)
            first
              | (refine wpAnyH_take (i := 0) (v := undef) rfl (by kernel_rfl) (by kernel_rfl) (by kernel_rfl) (fun _ _ _ h => h) (Or.inr ⟨by rfl, rfl⟩) trivial ?_)
              | (refine wpAnyH_take (i := 0) (v := ?_) rfl (by kernel_rfl) (by kernel_rfl) (by kernel_rfl) (fun _ _ _ h => h) (Or.inl ⟨by rfl, ?_⟩) trivial ?_
                 rotate_left
                 (intro w hSw
                  (try dsimp only at hSw)
                  (go_simp <;> with_reducible rfl)))
            try simp only [Act.put, List.getElem_toArray, List.getElem_cons_zero, List.getElem_cons_succ, List.setIfInBounds_toArray, List.set_cons_zero, List.set_cons_succ]
            first
              | (refine wpAnyH_take (i := 1) (v := undef) rfl (by kernel_rfl) (by kernel_rfl) (by kernel_rfl) (fun _ _ _ h => h) (Or.inr ⟨by rfl, rfl⟩) trivial ?_)
              | (refine wpAnyH_take (i := 1) (v := ?_) rfl (by kernel_rfl) (by kernel_rfl) (by kernel_rfl) (fun _ _ _ h => h) (Or.inl ⟨by rfl, ?_⟩) trivial ?_
                 rotate_left
                 (intro w hSw
                  (try dsimp only at hSw)
                  (go_simp <;> with_reducible rfl)))
            try simp only [Act.put, List.getElem_toArray, List.getElem_cons_zero, List.getElem_cons_succ, List.setIfInBounds_toArray, List.set_cons_zero, List.set_cons_succ]
            refine wpAnyH_take (i := 2) (v := undef) rfl (by kernel_rfl) (by kernel_rfl) (by kernel_rfl) (fun _ _ _ h => h) (Or.inr ⟨by rfl, rfl⟩) trivial ?_
            try simp only [Act.put, List.getElem_toArray, List.getElem_cons_zero, List.getElem_cons_succ, List.setIfInBounds_toArray, List.set_cons_zero, List.set_cons_succ]
            refine wpAnyH_take (i := 3) (v := undef) rfl (by kernel_rfl) (by kernel_rfl) (by kernel_rfl) (fun _ _ _ h => h) (Or.inr ⟨by rfl, rfl⟩) trivial ?_
            try simp only [Act.put, List.getElem_toArray, List.getElem_cons_zero, List.getElem_cons_succ, List.setIfInBounds_toArray, List.set_cons_zero, List.set_cons_succ]
            refine wpAnyH_take (i := 4) (v := undef) rfl (by kernel_rfl) (by kernel_rfl) (by kernel_rfl) (fun _ _ _ h => h) (Or.inr ⟨by rfl, rfl⟩) trivial ?_
            try simp only [Act.put, List.getElem_toArray, List.getElem_cons_zero, List.getElem_cons_succ, List.setIfInBounds_toArray, List.set_cons_zero, List.set_cons_succ]
            refine wpAnyH_take (i := 5) (v := undef) rfl (by kernel_rfl) (by kernel_rfl) (by kernel_rfl) (fun _ _ _ h => h) (Or.inr ⟨by rfl, rfl⟩) trivial ?_
            try simp only [Act.put, List.getElem_toArray, List.getElem_cons_zero, List.getElem_cons_succ, List.setIfInBounds_toArray, List.set_cons_zero, List.set_cons_succ]
            refine wpAnyH_take (i := 6) (v := undef) rfl (by kernel_rfl) (by kernel_rfl) (by kernel_rfl) (fun _ _ _ h => h) (Or.inr ⟨by rfl, rfl⟩) trivial ?_
            try simp only [Act.put, List.getElem_toArray, List.getElem_cons_zero, List.getElem_cons_succ, List.setIfInBounds_toArray, List.set_cons_zero, List.set_cons_succ]
            refine wpAnyH_take (i := 7) (v := undef) rfl (by kernel_rfl) (by kernel_rfl) (by kernel_rfl) (fun _ _ _ h => h) (Or.inr ⟨by rfl, rfl⟩) trivial ?_
            try simp only [Act.put, List.getElem_toArray, List.getElem_cons_zero, List.getElem_cons_succ, List.setIfInBounds_toArray, List.set_cons_zero, List.set_cons_succ]
            refine wpAnyH_take (i := 8) (v := undef) rfl (by kernel_rfl) (by kernel_rfl) (by kernel_rfl) (fun _ _ _ h => h) (Or.inr ⟨by rfl, rfl⟩) trivial ?_
            try simp only [Act.put, List.getElem_toArray, List.getElem_cons_zero, List.getElem_cons_succ, List.setIfInBounds_toArray, List.set_cons_zero, List.set_cons_succ]
            first
              | (refine wpAnyH_take (i := 9) (v := undef) rfl (by kernel_rfl) (by kernel_rfl) (by kernel_rfl) (fun _ _ _ h => h) (Or.inr ⟨by rfl, rfl⟩) trivial ?_)
              | (refine wpAnyH_take (i := 9) (v := ?_) rfl (by kernel_rfl) (by kernel_rfl) (by kernel_rfl) (fun _ _ _ h => h) (Or.inl ⟨by rfl, ?_⟩) trivial ?_
                 rotate_left
                 (intro w hSw
                  (try dsimp only at hSw)
                  (go_simp <;> with_reducible rfl)))
            try simp only [Act.put, List.getElem_toArray, List.getElem_cons_zero, List.getElem_cons_succ, List.setIfInBounds_toArray, List.set_cons_zero, List.set_cons_succ]
            first
              | (refine wpAnyH_take (i := 10) (v := undef) rfl (by kernel_rfl) (by kernel_rfl) (by kernel_rfl) (fun _ _ _ h => h) (Or.inr ⟨by rfl, rfl⟩) trivial ?_)
              | (refine wpAnyH_take (i := 10) (v := ?_) rfl (by kernel_rfl) (by kernel_rfl) (by kernel_rfl) (fun _ _ _ h => h) (Or.inl ⟨by rfl, ?_⟩) trivial ?_
                 rotate_left
                 (intro w hSw
                  (try dsimp only at hSw)
                  (go_simp <;> with_reducible rfl)))
            try simp only [Act.put, List.getElem_toArray, List.getElem_cons_zero, List.getElem_cons_succ, List.setIfInBounds_toArray, List.set_cons_zero, List.set_cons_succ]
            refine wpAnyH_done (by kernel_rfl) ?_ _
            have GD := hide GR.out.drew
            go_wp2_with fail
            go_roundw
            case rel => exact ⟨i + 1, by omega, by rw [ST2.out], by go_num, GD⟩
            case measure => simp [intOf]; omega
        · have hil : i = l.length := by omega
          have i2 : decide (i < l.length) = false := by simp [hlt]
          have OO3 := hide (own_chgS OO.out GR.out (fun _ _ h => h))
          have et : l.take i = l := by rw [hil]; exact List.take_length
          rw [et]
          cases hb : inW l s
          · have E3 : Hid (l2 = l ++ [s]) := hide (by rw [E2.out]; unfold addW; rw [hb]; rfl)
            have GA := al wr (.cells #[.string s] 9)
            have O9 := hide (own_chgS OO3.out GA (fun _ _ h => h))
            have NB := hide (World.news_of_block (cs := #[.string s]) (t := 9) (fr := (0, 0)) (heap_alloc_new wr _))
            have G9 := hide (GR.out.trans GA)
            have P9 : B ≤ (wr.alloc (.cells #[.string s] 9)).heap.size := by have := G9.out.size; have := GG.out.size; have := HBW.out; omega
            have LL : l.length ≤ 900000 := HL2L.out
            clear OO OO3 GA et E2 HL2
            subst hil
            go_wp2_with (at_builtin; refine wpList_append_lies _ rfl _ _ 39 rfl B 9 i0 (.string ⟨#[]⟩) 1 16 Try.underlying39 hi0 ‹_› hz1 hz2 rfl (by decide) _ l.length (l.map .string) rfl O9.out ⟨wr.heap.size, 0, none⟩ 1 1 [.string s] rfl rfl NB.out (by simp [Value.oneCell']) (by omega) (by simp [maxLen]; omega) (by omega) P9 (wr.heap.size + 1) (by simp) ?_; intro gg cap2 w10 hown hgrow hgat hglt)
            have g10 := own_grow_chgS O9.out hgrow
            have OF : Hid (w10.ownsRow B 9 1 (.slice (some ⟨gg, 0, none⟩) (l.length + 1) cap2) l2.length (l2.map .string)) := hide (by rw [E3.out, List.length_append, List.map_append]; exact hown)
            have GF : Hid (Chg (fun x => (Value.slice ua l.length uc).ownBlock = some x) w1 w10) := hide ((G9.out.mono (fun x _ h => h.elim)).trans g10)
            have OB : Hid (∀ r, (Value.slice (some ⟨gg, 0, none⟩) (l.length + 1) cap2).ownBlock = some r → (Value.slice ua l.length uc).ownBlock = some r ∨ w1.heap.size ≤ r) := hide (fun r e => by
              have e' : gg = r := Option.some.inj e
              subst e'
              rcases hgat with h | h
              · exact Or.inl h
              · exact Or.inr (by have h9 := G9.out.size; rw [al_sz] at h9; omega))
            clear hown hgrow hgat hglt g10 O9 NB
            go_wp2_with fail
            go_meet
            exact ⟨_, rfl, OF, GF, OB⟩
          · have E3 : Hid (l2 = l) := hide (by rw [E2.out]; unfold addW; rw [hb]; rfl)
            have OO4 : Hid (wr.ownsRow B 9 1 (.slice ua l.length uc) l2.length (l2.map .string)) := hide (by rw [E3.out]; exact OO3.out)
            have GF : Hid (Chg (fun x => (Value.slice ua l.length uc).ownBlock = some x) w1 wr) := hide (GR.out.mono (fun x _ h => h.elim))
            clear OO OO3 et E2 HL2
            subst hil
            go_wp2_with fail
            go_meet
            exact ⟨_, rfl, OO4, GF, hide (fun r h => Or.inl h)⟩
  case rest =>
  obtain ⟨u2, rfl, O2, G2, B2⟩ := hcut
  have HL3 : Hid (l2.length + (f.drop 0).size ≤ 900001) := hide (by rw [Ns.drop_zero]; have h := HL2.out; have := addW_le l s; have := HSZ.out; split at h <;> (subst h; omega))
  clear HROW OO HL2
  go_wp2_with fail
  go_loopw [0, 7] (fun uv iv wr => ∃ (i : Nat) (li : List ByteArray), i ≤ f.len ∧ iv = .int .i64 i ∧ Hid (RnInv w1 wr B (.slice ua l.length uc) uv f i li R)) (fun _ iv _ => f.len - (intOf iv).toNat)
  case atStart => exact ⟨0, l2, Nat.zero_le _, rfl, hide ⟨O2, G2, B2, hide (by rw [Ns.drop_zero]; exact HR.out), HL3⟩⟩
  case round =>
    obtain ⟨i, li, hi, rfl, hIN⟩ := hrel
    obtain ⟨O3, G3, B3, M3, L3⟩ := hIN.out
    clear hIN O2 G2 B2 HR HL3
    have PO : Hid (¬ (Value.slice ua l.length uc).ownBlock = some P) := hide (fun e => by have := (OL.out P e).2; have := HP.out; omega)
    have p3 : wr.cell? ⟨P, 3, none⟩ = some (.slice av f.len cap) := G3.out.cell PO.out (blk_cell BP.out 3)
    by_cases hlt : i < f.len
    · have i1 : (0 : Int) ≤ (i : Int) := by omega
      have i2 : (i : Int) < (f.len : Int) := by omega
      have i3 : f.len ≤ 900000 := by have := Ns.len_size f; have := HSZ.out; omega
      have hit : i < f.toL.length := by omega
      obtain ⟨la, lc, hlv, hl⟩ := HV.out
      rcases hl with h0 | ⟨b, off, rfl, hg, hl⟩
      · subst h0; exact absurd hlt (Nat.not_lt_zero _)
      injection hlv with e1 e2 e3
      subst e1 e3
      obtain ⟨c0, c1, c2, vi, c3, ti⟩ := lies_get hl i hit
      obtain ⟨ka, kc, rfl, _⟩ := id ti
      have hks := Ns.kid_size f i hit
      have XO : ∀ x, X x → ¬ (Value.slice ua l.length uc).ownBlock = some x := fun x hx e => by have := (OL.out x e).1; have := HX.out x hx; omega
      have WC := (GG.out.mono (T := fun x => (Value.slice ua l.length uc).ownBlock = some x) (fun x _ h => h.elim)).trans G3.out
      have d0 := WC.cell (XO b hg) c0
      have d1 := WC.cell (XO b hg) c1
      have d2 := WC.cell (XO b hg) c2
      have d3 := WC.cell (XO b hg) c3
      have TI := ti.chg WC XO
      have ST : Hid (nmsR (f.drop (i + 1)) (nmsN (f.toL[i]).kind (f.toL[i]).word (f.toL[i]).kids li) = R) := hide (by
        have h := M3.out
        rw [Ns.drop_get f i hit] at h
        exact h)
      have LB : Hid (li.length + (f.toL[i]).kids.size ≤ 900000) := hide (by
        have h1 := L3.out
        rw [Ns.drop_get f i hit] at h1
        simp only [Ns.size] at h1
        have h2 : (f.toL[i]).kids = (f.toL[i]).2.2.2 := rfl
        rw [h2]
        omega)
      have LC : Hid ((nmsN (f.toL[i]).kind (f.toL[i]).word (f.toL[i]).kids li).length + (f.drop (i + 1)).size ≤ 900001) := hide (by
        have h1 := L3.out
        rw [Ns.drop_get f i hit] at h1
        simp only [Ns.size] at h1
        have h2 := nmsN_le (f.toL[i]).kind (f.toL[i]).word (f.toL[i]).kids li
        have h3 : (f.toL[i]).kids = (f.toL[i]).2.2.2 := rfl
        rw [h3] at h2 ⊢
        omega)
      have KI := hide (IH.out (f.toL[i]).kids (by have := HF.out; omega) li (f.toL[i]).kind (f.toL[i]).word (f.toL[i]).at _ _ X B wr LB.out HX.out (by have := WC.size; have := HBW.out; omega) TI O3.out)
      clear hl c0 c1 c2 c3 ti WC M3 hks XO TI LB
      dsimp only [Nd.kind, Nd.word, Nd.at, Nd.kids] at d0 d1 d2 d3 KI ST LC
      generalize nmsN (f.toL[i]).1 (f.toL[i]).2.1 (f.toL[i]).2.2.2 li = l3 at *
      generalize (f.toL[i]).1 = n0 at *
      generalize (f.toL[i]).2.1 = n1 at *
      generalize (f.toL[i]).2.2.1 = n2 at *
      generalize (f.toL[i]).2.2.2 = n3 at *
      go_wp2_with fail
      refine KI.out.mono ?_
      rintro e w6 ⟨v6, rfl, O6, g6, B6⟩
      have G6 : Hid (Chg (fun x => (Value.slice ua l.length uc).ownBlock = some x) w1 w6) := hide (((G3.out.mono (T := fun x => (Value.slice ua l.length uc).ownBlock = some x ∨ w1.heap.size ≤ x) (fun x _ h => Or.inl h)).trans (g6.out.mono (fun x _ h => B3.out x h))).mono (fun x hx e => by
        rcases e with e | e
        · exact e
        · omega))
      have F9 : Hid (RnInv w1 w6 B (.slice ua l.length uc) v6 f (i + 1) l3 R) := hide ⟨O6, G6, hide (fun r e => by
        rcases B6.out r e with h | h
        · exact B3.out r h
        · exact Or.inr (by have := G3.out.size; omega)), ST, LC⟩
      clear g6 KI O6 B6 G6 B3 O3 G3
      go_wp2_with fail
      go_roundw
      case rel => exact ⟨i + 1, l3, by omega, by go_num, F9⟩
      case measure => simp [intOf]; omega
    · have hif : i = f.len := by omega
      have ER : Hid (R = li) := hide (by
        have h := M3.out
        rw [hif, Ns.drop_all] at h
        exact h.symm)
      have OF : Hid (wr.ownsRow B 9 1 u0 R.length (R.map .string)) := hide (by rw [ER.out]; exact O3.out)
      have GX := hide ((GG.out.mono (T := fun x => (Value.slice ua l.length uc).ownBlock = some x) (fun x _ h => h.elim)).trans G3.out)
      have BX : Hid (∀ r, u0.ownBlock = some r → (Value.slice ua l.length uc).ownBlock = some r ∨ w.heap.size ≤ r) := hide (fun r e => by
        rcases B3.out r e with h | h
        · exact Or.inl h
        · exact Or.inr (by have := HP.out; omega))
      clear M3 HV IH O3 B3 G3
      have i2 : decide (i < f.len) = false := by simp [hlt]
      subst hif
      go_wp2_with fail
      go_ret
      exact ⟨_, rfl, OF, GX, BX⟩

theorem rnames_all (n : Nat) : ∀ f : Ns, f.size ≤ n → RnC f := by
  induction n with
  | zero => exact fun f hf => rnames_step 0 (fun g hg => absurd hg (Nat.not_lt_zero _)) f hf
  | succ n ih => exact fun f hf => rnames_step (n + 1) (fun g hg => ih g (by omega)) f hf
theorem rnames_any (f : Ns) : RnC f := rnames_all f.size f (Nat.le_refl _)
end Go.Proofs.Ytboeeaekhijboaa
