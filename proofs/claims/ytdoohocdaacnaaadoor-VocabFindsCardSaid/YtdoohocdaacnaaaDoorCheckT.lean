/- vocab.Check. -/
import Derived.Test.YtdoohocdaacnaaaDoorNames
namespace Go.Proofs.YtdoohocdaacnaaaDoor
open Go.RowKit Go.Maps
set_option linter.unusedVariables false
set_option linter.unusedSimpArgs false

/-- A row of strings. -/
def Strs (w : World) (X : Nat → Prop) (v : Value) (l : List ByteArray) : Prop :=
  (∀ s ∈ l, s.size ≤ maxLen) ∧ ∃ a cap, v = .slice a l.length cap ∧ (l = [] ∨ ∃ g off, a = some ⟨g, off, none⟩ ∧ X g ∧ ∀ i (h : i < l.length), w.cell? ⟨g, off + i, none⟩ = some (.string (l[i]'h)))
theorem Strs.chg {w w' : World} {X : Nat → Prop} {v : Value} {l : List ByteArray} (h : Strs w X v l) {S : Nat → Prop} (g : Chg S w w') (hn : ∀ x, X x → ¬ S x) : Strs w' X v l := by
  obtain ⟨h0, a, cap, e, h1⟩ := h
  refine ⟨h0, a, cap, e, ?_⟩
  rcases h1 with h1 | ⟨g1, off, e1, h2, h3⟩
  · exact Or.inl h1
  · exact Or.inr ⟨g1, off, e1, h2, fun i hi => g.cell (hn g1 h2) (h3 i hi)⟩
theorem Strs.up {w : World} {X Y : Nat → Prop} {v : Value} {l : List ByteArray} (h : Strs w X v l) (hb : ∀ x, X x → Y x) : Strs w Y v l := by
  obtain ⟨h0, a, cap, e, h1⟩ := h
  refine ⟨h0, a, cap, e, ?_⟩
  rcases h1 with h1 | ⟨g1, off, e1, h2, h3⟩
  · exact Or.inl h1
  · exact Or.inr ⟨g1, off, e1, hb _ h2, h3⟩

/-- a constant: its name, its type's arguments and base -/
abbrev Cn := ByteArray × Fs × Int
/-- A row of constants. -/
def Cns (w : World) (X : Nat → Prop) (v : Value) (l : List Cn) : Prop :=
  (∀ c ∈ l, c.1.size ≤ maxLen ∧ c.2.1.size ≤ 10000) ∧ ∃ a cap, v = .slice a l.length cap ∧ (l = [] ∨ ∃ g off, a = some ⟨g, off, none⟩ ∧ X g ∧ ∀ i (h : i < l.length), w.cell? ⟨g, off + i * 3, none⟩ = some (.string (l[i]'h).1) ∧ (∃ u, w.cell? ⟨g, off + i * 3 + 1, none⟩ = some u ∧ Ts w X u (l[i]'h).2.1) ∧ w.cell? ⟨g, off + i * 3 + 2, none⟩ = some (.int .i64 (l[i]'h).2.2))
theorem Cns.chg {w w' : World} {X : Nat → Prop} {v : Value} {l : List Cn} (h : Cns w X v l) {S : Nat → Prop} (g : Chg S w w') (hn : ∀ x, X x → ¬ S x) : Cns w' X v l := by
  obtain ⟨h0, a, cap, e, h1⟩ := h
  refine ⟨h0, a, cap, e, ?_⟩
  rcases h1 with h1 | ⟨g1, off, e1, h2, h3⟩
  · exact Or.inl h1
  · exact Or.inr ⟨g1, off, e1, h2, fun i hi => by
      obtain ⟨c0, ⟨u, c1, c2⟩, c3⟩ := h3 i hi
      exact ⟨g.cell (hn g1 h2) c0, ⟨u, g.cell (hn g1 h2) c1, c2.chg g hn⟩, g.cell (hn g1 h2) c3⟩⟩
theorem Cns.up {w : World} {X Y : Nat → Prop} {v : Value} {l : List Cn} (h : Cns w X v l) (hb : ∀ x, X x → Y x) : Cns w Y v l := by
  obtain ⟨h0, a, cap, e, h1⟩ := h
  refine ⟨h0, a, cap, e, ?_⟩
  rcases h1 with h1 | ⟨g1, off, e1, h2, h3⟩
  · exact Or.inl h1
  · exact Or.inr ⟨g1, off, e1, hb _ h2, fun i hi => by
      obtain ⟨c0, ⟨u, c1, c2⟩, c3⟩ := h3 i hi
      exact ⟨c0, ⟨u, c1, c2.up hb⟩, c3⟩⟩

def chkB (l : List ByteArray) : List ByteArray → Int
  | [] => 0
  | s :: r => if lookC l s = 0 then chkB (l ++ [s]) r else lookC l s
def chkC (n : Int) (l : List ByteArray) : List Cn → Int
  | [] => 0
  | c :: r => if lookC l c.1 = 0 then (if goodL n ((1, c.2.2) :: nodes 2 c.2.1) = true then chkC n (l ++ [c.1]) r else 5) else lookC l c.1
/-- what Check says of a table -/
def checkT (bs : List ByteArray) (cs : List Cn) : Int :=
  if 1000 < bs.length ∨ 1000 < cs.length + bs.length then 2 else if chkB [] bs = 0 then chkC (bs.length : Int) bs cs else chkB [] bs

theorem chkB_at (l : List ByteArray) (bs : List ByteArray) (k : Nat) (h : k < bs.length) (p : List ByteArray) : chkB p (bs.drop k) = if lookC p bs[k] = 0 then chkB (p ++ [bs[k]]) (bs.drop (k + 1)) else lookC p bs[k] := by
  rw [List.drop_eq_getElem_cons h]; rfl
theorem chkC_at (n : Int) (cs : List Cn) (k : Nat) (h : k < cs.length) (p : List ByteArray) : chkC n p (cs.drop k) = if lookC p cs[k].1 = 0 then (if goodL n ((1, cs[k].2.2) :: nodes 2 cs[k].2.1) = true then chkC n (p ++ [cs[k].1]) (cs.drop (k + 1)) else 5) else lookC p cs[k].1 := by
  rw [List.drop_eq_getElem_cons h]; rfl
theorem take_snoc {α : Type} (l : List α) (k : Nat) (h : k < l.length) : l.take (k + 1) = l.take k ++ [l[k]] := List.take_succ_eq_append_getElem h

set_option maxRecDepth 100000 in
set_option maxHeartbeats 32000000 in
theorem check_any (bs : List ByteArray) (cs : List Cn) (bv cv : Value) (X : Nat → Prop) (w : World) (hX : ∀ x, X x → x < w.heap.size) (hb : Strs w X bv bs) (hc : Cns w X cv cs) :
    Calls Tryd.prog 9 #[.agg #[bv, cv]] w fun e w' => e = .returned (.int .i64 (checkT bs cs)) ∧ Chg (fun _ => False) w w' := by
  obtain ⟨hbs, ba, bc, rfl, _⟩ := id hb
  obtain ⟨hcs, ca, cc, rfl, _⟩ := id hc
  obtain ⟨R, hR⟩ : ∃ R, checkT bs cs = R := ⟨_, rfl⟩
  rw [hR]
  have HR := hide hR
  have C1 := hide (al w (.cells #[.slice ba bs.length bc, .slice ca cs.length cc] 26))
  have BX := blk_new w (.cells #[.slice ba bs.length bc, .slice ca cs.length cc] 26)
  have HB1 := hide (hb.chg C1.out (fun _ _ h => h))
  have HC1 := hide (hc.chg C1.out (fun _ _ h => h))
  have HX1 := hide (fun x (hx : X x) => Nat.lt_of_lt_of_le (hX x hx) C1.out.size)
  have hmm := @run_makeMap Tryd.prog
  have HBS := hide hbs
  have HCS := hide hcs
  obtain ⟨w1, hw1⟩ : ∃ w1, w.alloc (.cells #[.slice ba bs.length bc, .slice ca cs.length cc] 26) = w1 := ⟨_, rfl⟩
  rw [hw1] at C1 BX HB1 HC1 HX1
  obtain ⟨b0, hb0⟩ : ∃ b0, w.heap.size = b0 := ⟨_, rfl⟩
  rw [hb0] at BX
  have k0 := blk_cell BX 0
  have k1 := blk_cell BX 1
  simp only [List.getElem?_toArray, List.getElem?_cons_zero, List.getElem?_cons_succ] at k0 k1
  have lb0 := blk_lt BX
  clear hb hc hR hbs hcs hX BX
  by_cases h1 : 1000 < bs.length
  · have hf : R = 2 := by rw [← HR.out]; unfold checkT; rw [if_pos (Or.inl h1)]
    subst hf
    have h1' : (1000 : Int) < (bs.length : Int) := by omega
    go_enter Tryd.func9, Tryd.ntmps9
    go_wp2_with fail
    go_ret
    exact ⟨rfl, C1.out⟩
  by_cases h2 : 1000 < cs.length + bs.length
  · have hf : R = 2 := by rw [← HR.out]; unfold checkT; rw [if_pos (Or.inr h2)]
    subst hf
    have h1' : ¬ (1000 : Int) < (bs.length : Int) := by omega
    have h2' : (1000 : Int) - (bs.length : Int) < (cs.length : Int) := by omega
    go_enter Tryd.func9, Tryd.ntmps9
    go_wp2_with fail
    go_ret
    exact ⟨rfl, C1.out⟩
  have HE : Hid (R = if chkB [] bs = 0 then chkC (bs.length : Int) bs cs else chkB [] bs) := hide (by rw [← HR.out]; unfold checkT; rw [if_neg (by omega)])
  have h1' : ¬ (1000 : Int) < (bs.length : Int) := by omega
  have h2' : ¬ (1000 : Int) - (bs.length : Int) < (cs.length : Int) := by omega
  clear HR
  have MM := hide (SM.made w1)
  have C2 := hide (al w1 (.map #[] 0))
  go_enter Tryd.func9, Tryd.ntmps9
  go_wp2_with fail
  generalize hw2 : w1.alloc (.map #[] 0) = w2 at *
  obtain ⟨Mb, hMb⟩ : ∃ Mb, w1.heap.size = Mb := ⟨_, rfl⟩
  rw [hMb] at MM ⊢
  have HM := hide hMb
  clear hw2 hMb hw1 hb0 hmm h1' h2'
  have LB := hide (And.intro h1 h2)
  go_loopw [28] (fun iv wr => ∃ k : Nat, k ≤ bs.length ∧ iv = .int .i64 k ∧ Hid (SM wr Mb k (bs.take k)) ∧ Hid (chkB [] bs = chkB (bs.take k) (bs.drop k)) ∧ Hid (Chg (fun _ => False) w1 wr)) (fun iv _ => bs.length - (intOf iv).toNat)
  case atStart => exact ⟨0, Nat.zero_le _, rfl, by unfold Hid; rw [List.take_zero]; exact MM.out, rfl, C2⟩
  case round =>
    clear MM C2
    obtain ⟨k, hk, rfl, hS, hQ, hC⟩ := hrel
    by_cases hlt : k < bs.length
    · obtain ⟨hsz, a', c', e', hrow⟩ := HB1.out.chg hC.out (fun _ _ h => h)
      rcases hrow with h0 | ⟨g, off, e2, hg, hcell⟩
      · rw [h0] at hlt; exact absurd hlt (Nat.not_lt_zero _)
      injection e' with e3 e4 e5
      subst e3 e2
      clear e4 e5
      have d0 := hcell k hlt
      have i1 : (0 : Int) ≤ (k : Int) := by omega
      have i2 : (k : Int) < (bs.length : Int) := by omega
      have lk := hide (look_any Mb k (bs.take k) (by omega) bs[k] (hsz _ (List.getElem_mem hlt)) wr hS.out)
      have hat := chkB_at [] bs k hlt (bs.take k)
      have htk := take_snoc bs k hlt
      clear hcell hsz hg
      by_cases hz : lookC (bs.take k) bs[k] = 0
      · rw [if_pos hz, ← htk] at hat
        have HQ2 : Hid (chkB [] bs = chkB (bs.take (k + 1)) (bs.drop (k + 1))) := hide (by rw [hQ.out, hat])
        rw [hz, ← htk] at lk
        clear hat htk hz hQ hS
        generalize bs[k] = nm at *
        go_wp2_with fail
        refine lk.out.mono ?_
        rintro e w3 ⟨rfl, hs3, g3⟩
        have S3 := hide (hs3 trivial)
        have C3 : Hid (Chg (fun _ => False) w1 w3) := hide ((hC.out.none.trans g3).mono (fun x hx e => by have := HM.out; omega))
        clear hs3 g3 lk
        go_wp2_with fail
        go_roundw
        case rel => exact ⟨k + 1, by omega, by go_num, S3, HQ2, C3⟩
        case measure => simp [intOf]; omega
      · rw [if_neg hz] at hat
        have hf : R = lookC (bs.take k) bs[k] := by rw [HE.out, hQ.out, hat, if_neg hz]
        clear hat htk hQ HE hS
        rw [← hf] at lk hz
        clear hf
        have hzb : (R != 0) = true := by simpa using hz
        clear hz
        generalize bs[k] = nm at *
        go_wp2_with fail
        refine lk.out.mono ?_
        rintro e w3 ⟨rfl, hs3, g3⟩
        have C3 : Hid (Chg (fun _ => False) w1 w3) := hide ((hC.out.none.trans g3).mono (fun x hx e => by have := HM.out; omega))
        clear hs3 g3 lk
        go_wp2_with fail
        go_ret
        exact ⟨rfl, C1.out.trans C3.out⟩
    · have hkl : k = bs.length := by omega
      have HE2 : Hid (R = chkC (bs.length : Int) bs cs) := hide (by
        have h := hQ.out
        rw [hkl, List.take_length, List.drop_length] at h
        have h2 := HE.out
        rw [h] at h2
        exact h2)
      have S2 : Hid (SM wr Mb bs.length bs) := hide (by have h := hS.out; rw [hkl, List.take_length] at h; exact h)
      have e0 := hC.out.cell (fun h => h) k0
      have e1 := hC.out.cell (fun h => h) k1
      subst hkl
      clear hS hQ HE
      have C2 := hC
      clear hC
      go_wp2_with fail
      clear e0 e1
      generalize wr = w2' at *
      go_loopw [42] (fun iv wr => ∃ k : Nat, k ≤ cs.length ∧ iv = .int .i64 k ∧ Hid (SM wr Mb (bs.length + k) (bs ++ (cs.take k).map (·.1))) ∧ Hid (R = chkC (bs.length : Int) (bs ++ (cs.take k).map (·.1)) (cs.drop k)) ∧ Hid (Chg (fun _ => False) w1 wr)) (fun iv _ => cs.length - (intOf iv).toNat)
      case atStart => exact ⟨0, Nat.zero_le _, rfl, by unfold Hid; rw [List.take_zero, List.map_nil, List.append_nil]; exact S2.out, by unfold Hid; rw [List.take_zero, List.map_nil, List.append_nil]; exact HE2.out, C2⟩
      case round =>
        clear S2 C2 HE2
        obtain ⟨k, hk, rfl, hS, hQ, hC⟩ := hrel
        by_cases hlt : k < cs.length
        · obtain ⟨hsz, a', c', e', hrow⟩ := HC1.out.chg hC.out (fun _ _ h => h)
          rcases hrow with h0 | ⟨g, off, e2, hg, hcell⟩
          · rw [h0] at hlt; exact absurd hlt (Nat.not_lt_zero _)
          injection e' with e3 e4 e5
          subst e3 e2
          clear e4 e5
          obtain ⟨d0, ⟨u, d1, tu⟩, d2⟩ := hcell k hlt
          have i1 : (0 : Int) ≤ (k : Int) := by omega
          have i2 : (k : Int) < (cs.length : Int) := by omega
          have hsz0 := hsz _ (List.getElem_mem hlt)
          have hat := chkC_at (bs.length : Int) cs k hlt (bs ++ (cs.take k).map (·.1))
          have htk : (cs.take (k + 1)).map (·.1) = (cs.take k).map (·.1) ++ [cs[k].1] := by rw [take_snoc cs k hlt, List.map_append]; rfl
          have e0 := hC.out.cell (fun h => h) k0
          obtain ⟨ua, uc, rfl, _⟩ := id tu
          have XX := hide (fun x (hx : X x) => Nat.lt_of_lt_of_le (HX1.out x hx) (Nat.le_trans hC.out.size (al wr (.cells #[.string cs[k].1, .slice ua cs[k].2.1.len uc, .int .i64 cs[k].2.2] 32)).size))
          have GA := al wr (.cells #[.string cs[k].1, .slice ua cs[k].2.1.len uc, .int .i64 cs[k].2.2] 32)
          have hS' := hS.out.chg GA (fun h => h)
          have lk := hide (look_any Mb (bs.length + k) (bs ++ (cs.take k).map (·.1)) (by have := LB.out; omega) cs[k].1 hsz0.1 _ hS')
          have TU := hide (tu.chg GA (fun _ _ h => h))
          have SZ := hide hsz0.2
          have CA := hide (hC.out.trans GA)
          have f0 := GA.cell (fun h => h) e0
          have bA := blk_new wr (.cells #[.string cs[k].1, .slice ua cs[k].2.1.len uc, .int .i64 cs[k].2.2] 32)
          have y0 := blk_cell bA 0
          have y1 := blk_cell bA 1
          have y2 := blk_cell bA 2
          simp only [List.getElem?_toArray, List.getElem?_cons_zero, List.getElem?_cons_succ] at y0 y1 y2
          have HQ := hide hQ.out
          have HA := hide hat
          have HT := hide htk
          have hMA : Mb < wr.heap.size := hS.out.lt
          have NMA : Hid (¬ wr.heap.size = Mb) := hide (by omega)
          clear hcell hsz hg tu hsz0 hat htk hS hS' hC e0 GA hQ hMA bA
          generalize cs[k] = c at *
          obtain ⟨nm, kk, kb⟩ := c
          dsimp only at d0 d1 d2 y0 y1 y2 f0
          generalize hwA : wr.alloc (.cells #[.string nm, .slice ua kk.len uc, .int .i64 kb] 32) = wA at *
          by_cases hz : lookC (bs ++ (cs.take k).map (·.1)) nm = 0
          · have h6 := HA.out
            dsimp only at h6
            rw [if_pos hz] at h6
            have h7 := HT.out
            dsimp only at h7
            rw [List.append_assoc, ← h7] at h6
            have H6 := hide h6
            rw [hz] at lk
            dsimp only at lk
            rw [List.append_assoc, ← h7] at lk
            clear hz h6 h7 HA HT
            go_wp2_with fail
            refine lk.out.mono ?_
            rintro e w3 ⟨rfl, hs3, g3⟩
            have S3 := hide (hs3 trivial)
            have C3 : Hid (Chg (fun _ => False) w1 w3) := hide ((CA.out.none.trans g3).mono (fun x hx e => by have := HM.out; omega))
            have z0 := g3.cell NMA.out y0
            have z1 := g3.cell NMA.out y1
            have z2 := g3.cell NMA.out y2
            have e0 := g3.cell (show ¬ b0 = Mb by have := HM.out; omega) f0
            have TU3 := hide (TU.out.chg g3 (fun x hx e => by have := HX1.out x hx; have := HM.out; omega))
            have rg := hide (right_any kk (by have := SZ.out; omega) (.slice ua kk.len uc) kb (bs.length : Int) X w3 (fun x hx => Nat.lt_of_lt_of_le (XX.out x hx) g3.size) TU3.out)
            clear hs3 g3 lk y0 y1 y2 f0 d0 d1 d2
            cases hgd : goodL (bs.length : Int) ((1, kb) :: nodes 2 kk)
            · rw [hgd] at rg
              have hf : R = 5 := by
                have h := HQ.out
                rw [H6.out, if_neg (by rw [hgd]; decide)] at h
                exact h
              subst hf
              clear hgd H6 HQ
              go_wp2_with fail
              refine rg.out.mono ?_
              rintro e w4 ⟨rfl, g4⟩
              have C4 := hide (C3.out.trans g4)
              clear g4 rg
              go_wp2_with fail
              go_ret
              exact ⟨rfl, C1.out.trans C4.out⟩
            · rw [hgd] at rg
              have HQ4 : Hid (R = chkC (bs.length : Int) (bs ++ (cs.take (k + 1)).map (·.1)) (cs.drop (k + 1))) := hide (by
                have h := HQ.out
                rw [H6.out, if_pos hgd] at h
                exact h)
              clear hgd H6 HQ
              go_wp2_with fail
              refine rg.out.mono ?_
              rintro e w4 ⟨rfl, g4⟩
              have C4 := hide (C3.out.trans g4)
              have S4 := hide (S3.out.chg g4 (fun h => h))
              clear g4 rg
              go_wp2_with fail
              go_roundw
              case rel => exact ⟨k + 1, by omega, by go_num, S4, HQ4, C4⟩
              case measure => simp [intOf]; omega
          · have h6 := HA.out
            dsimp only at h6
            rw [if_neg hz] at h6
            have hf : R = lookC (bs ++ (cs.take k).map (·.1)) nm := by rw [HQ.out, h6]
            dsimp only at lk
            rw [← hf] at lk hz
            have hzb : (R != 0) = true := by simpa using hz
            clear hz h6 hf HQ HA HT
            go_wp2_with fail
            refine lk.out.mono ?_
            rintro e w3 ⟨rfl, hs3, g3⟩
            have C3 : Hid (Chg (fun _ => False) w1 w3) := hide ((CA.out.none.trans g3).mono (fun x hx e => by have := HM.out; omega))
            clear hs3 g3 lk
            go_wp2_with fail
            go_ret
            exact ⟨rfl, C1.out.trans C3.out⟩
        · have hkl : k = cs.length := by omega
          have hf : R = 0 := by
            have h := hQ.out
            rw [hkl, List.drop_length] at h
            exact h
          subst hf hkl
          clear hS hQ
          go_wp2_with fail
          go_ret
          exact ⟨rfl, C1.out.trans hC.out⟩
end Go.Proofs.YtdoohocdaacnaaaDoor
