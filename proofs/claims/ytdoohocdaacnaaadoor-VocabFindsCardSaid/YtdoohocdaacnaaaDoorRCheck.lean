/- The document's Check of a table. -/
import Derived.Test.YtdoohocdaacnaaaDoorNamesR
import Derived.Test.YtdoohocdaacnaaaDoorRSame
import Derived.Test.YtdoohocdaacnaaaDoorLexR5
namespace Go.Proofs.YtdoohocdaacnaaaDoor
open Go.RowKit Go.Maps
set_option linter.unusedVariables false
set_option linter.unusedSimpArgs false

/-- the names in order, and whether the type behind each is right -/
def itemsT (bs : List ByteArray) (cs : List Cn) : List (ByteArray × Bool) := bs.map (fun s => (s, true)) ++ cs.map (fun c => (c.1, goodL (bs.length : Int) ((1, c.2.2) :: nodes 2 c.2.1)))
def chkI (l : List ByteArray) : List (ByteArray × Bool) → Int
  | [] => 0
  | x :: r => if lookC l x.1 = 0 then (if x.2 = true then chkI (l ++ [x.1]) r else 5) else lookC l x.1
theorem chkI_base (rest : List (ByteArray × Bool)) : ∀ (bs l : List ByteArray), chkI l (bs.map (fun s => (s, true)) ++ rest) = if chkB l bs = 0 then chkI (l ++ bs) rest else chkB l bs := by
  intro bs
  induction bs with
  | nil => intro l; simp [chkB]
  | cons s r ih =>
    intro l
    simp only [List.map_cons, List.cons_append, chkI, chkB]
    split
    · rw [ih]; simp
    · rfl
theorem chkI_const (n : Int) : ∀ (cs : List Cn) (l : List ByteArray), chkI l (cs.map (fun c => (c.1, goodL n ((1, c.2.2) :: nodes 2 c.2.1)))) = chkC n l cs := by
  intro cs
  induction cs with
  | nil => intro l; rfl
  | cons c r ih => intro l; simp only [List.map_cons, chkI, chkC]; rw [ih]
theorem checkT_items (bs : List ByteArray) (cs : List Cn) (h1 : bs.length ≤ 100) (h2 : cs.length ≤ 100) : checkT bs cs = chkI [] (itemsT bs cs) := by
  unfold checkT itemsT
  rw [if_neg (by omega), chkI_base, chkI_const]
  rfl
def allN (bs : List ByteArray) (cs : List Cn) : List ByteArray := bs ++ cs.map (·.1)
theorem allN_len (bs : List ByteArray) (cs : List Cn) : (allN bs cs).length = bs.length + cs.length := by simp [allN]
theorem items_len (bs : List ByteArray) (cs : List Cn) : (itemsT bs cs).length = bs.length + cs.length := by simp [itemsT]
theorem items_name (bs : List ByteArray) (cs : List Cn) (i : Nat) (h : i < (itemsT bs cs).length) (h2 : i < (allN bs cs).length) : ((itemsT bs cs)[i]).1 = (allN bs cs)[i] := by
  simp only [itemsT, allN, List.getElem_append, List.length_map, List.getElem_map]
  split <;> rfl
theorem items_base (bs : List ByteArray) (cs : List Cn) (i : Nat) (h : i < (itemsT bs cs).length) (hb : i < bs.length) : ((itemsT bs cs)[i]).2 = true := by
  simp only [itemsT, List.getElem_append, List.length_map, List.getElem_map, dif_pos hb]
theorem items_const (bs : List ByteArray) (cs : List Cn) (i : Nat) (h : i < (itemsT bs cs).length) (k : Nat) (hk : i = bs.length + k) (h2 : k < cs.length) : ((itemsT bs cs)[i]).2 = goodL (bs.length : Int) ((1, cs[k].2.2) :: nodes 2 cs[k].2.1) := by
  subst hk
  simp only [itemsT, List.getElem_append, List.length_map, List.getElem_map, dif_neg (show ¬ bs.length + k < bs.length by omega), Nat.add_sub_cancel_left]
theorem chkI_at (x : List (ByteArray × Bool)) (l : List ByteArray) (i : Nat) (h : i < x.length) : chkI l (x.drop i) = if lookC l x[i].1 = 0 then (if x[i].2 = true then chkI (l ++ [x[i].1]) (x.drop (i + 1)) else 5) else lookC l x[i].1 := by
  rw [List.drop_eq_getElem_cons h]; rfl
theorem Strs.cellX {w : World} {X : Nat → Prop} {v : Value} {l : List ByteArray} (h : Strs w X v l) (i : Nat) (hi : i < l.length) : ∃ g off cap, v = .slice (some ⟨g, off, none⟩) l.length cap ∧ X g ∧ ∀ j (hj : j < l.length), w.cell? ⟨g, off + j, none⟩ = some (.string (l[j]'hj)) := by
  obtain ⟨_, a, cap, rfl, h1⟩ := h
  rcases h1 with h1 | ⟨g, off, rfl, hg, h2⟩
  · rw [h1] at hi; exact absurd hi (Nat.not_lt_zero _)
  · exact ⟨g, off, cap, rfl, hg, h2⟩
theorem inN_snoc {l : List ByteArray} {s t : ByteArray} (h : inN l s = false) (ht : t ≠ s) : inN (l ++ [t]) s = false := by
  rw [inN_app, h]
  simp [inN, ht]
theorem in_take {l : List ByteArray} {s t : ByteArray} {i j : Nat} {hj : j < l.length} (h : l[j]'hj = t) (ht : t = s) (hij : j < i) (hj2 : j < l.length) : inN (l.take i) s = true := by
  exact inN_iff.2 (List.mem_iff_getElem.2 ⟨j, by rw [List.length_take]; omega, by rw [List.getElem_take, h, ht]⟩)

set_option maxRecDepth 100000 in
set_option maxHeartbeats 16000000 in
theorem refCheck_any (bs : List ByteArray) (cs : List Cn) (hbl : bs.length ≤ 100) (hcl : cs.length ≤ 100) (ba : Option Addr) (bc : Nat) (ca : Option Addr) (cc : Nat) (X : Nat → Prop) (w : World) (hX : ∀ x, X x → x < w.heap.size)
    (hb : Strs w X (.slice ba bs.length bc) bs) (hc : Cns w X (.slice ca cs.length cc) cs) :
    Calls Tryd.prog 14 #[.agg #[.slice ba bs.length bc, .slice ca cs.length cc]] w fun e w' => e = .returned (.int .i64 (checkT bs cs)) ∧ Chg (fun _ => False) w w' := by
  have G1 := hide (al w (.cells #[.slice ba bs.length bc, .slice ca cs.length cc] 39))
  have BX := blk_new w (.cells #[.slice ba bs.length bc, .slice ca cs.length cc] 39)
  have HX := hide hX
  have HB := hide (hb.chg G1.out (fun _ _ h => h))
  have HC := hide (hc.chg G1.out (fun _ _ h => h))
  have y0 := blk_cell BX 0
  have y1 := blk_cell BX 1
  simp only [List.getElem?_toArray, List.getElem?_cons_zero, List.getElem?_cons_succ] at y0 y1
  have HBX := hide BX
  have HBL := hide hbl
  have HCL := hide hcl
  have HX1 : Hid (∀ x, X x → x < (w.alloc (.cells #[.slice ba bs.length bc, .slice ca cs.length cc] 39)).heap.size) := hide (fun x hx => Nat.lt_of_lt_of_le (hX x hx) G1.out.size)
  have nm := hide (refNames_any bs cs (by omega) (by omega) ba bc ca cc X _ HX1.out HB.out HC.out)
  clear hb hc hX BX
  rw [checkT_items bs cs hbl hcl]
  go_enter Tryd.func14, Tryd.ntmps14
  have z1 : ¬ (1000 : Int) < (bs.length : Int) := by omega
  have z2 : ¬ (1000 : Int) - (bs.length : Int) < (cs.length : Int) := by omega
  go_wp2_with fail
  clear z1 z2
  obtain ⟨P, hP⟩ : ∃ P, w.heap.size = P := ⟨_, rfl⟩
  have HP := hide hP
  rw [hP] at y0 y1 HBX ⊢
  clear hP
  generalize w.alloc (.cells #[.slice ba bs.length bc, .slice ca cs.length cc] 39) = w1 at *
  refine nm.out.mono ?_
  rintro e w2 ⟨⟨nv, rfl, sn⟩, g2⟩
  have GG := hide (G1.out.trans g2)
  have B2 := hide (g2.blk (fun h => h) HBX.out)
  have HC2 := hide (HC.out.chg g2 (fun _ _ h => h))
  have HX2 : Hid (∀ x, X x → x < w2.heap.size) := hide (fun x hx => Nat.lt_of_lt_of_le (HX1.out x hx) g2.size)
  have SN := hide sn
  obtain ⟨_, na, nc, rfl, _⟩ := id sn
  have AL : (bs ++ cs.map (·.1)).length = bs.length + cs.length := allN_len bs cs
  clear nm g2 sn y0 y1 HBX HB HC HX1 G1
  rw [AL]
  rw [AL] at SN
  go_wp2_with fail
  go_loopw [4, 5] (fun iv _ wr => ∃ i : Nat, i ≤ bs.length + cs.length ∧ iv = .int .i64 i ∧ Hid (chkI ((allN bs cs).take i) ((itemsT bs cs).drop i) = chkI [] (itemsT bs cs)) ∧ Hid (Chg (fun _ => False) w2 wr)) (fun iv _ _ => (bs.length + cs.length) - (intOf iv).toNat)
  case atStart => exact ⟨0, Nat.zero_le _, rfl, hide (by simp), Chg.refl _ _⟩
  case round =>
    obtain ⟨i, hi, rfl, HE, hC⟩ := hrel
    have B3 := hC.out.blk (fun h => h) B2.out
    have xP0 := blk_cell B3 0
    have xP1 := blk_cell B3 1
    simp only [List.getElem?_toArray, List.getElem?_cons_zero, List.getElem?_cons_succ] at xP0 xP1
    have GW := hide (GG.out.trans hC.out)
    by_cases hlt : i < bs.length + cs.length
    · have hia : i < (allN bs cs).length := by rw [allN_len]; exact hlt
      have hii : i < (itemsT bs cs).length := by rw [items_len]; exact hlt
      have i1 : (0 : Int) ≤ (i : Int) := by omega
      have i2 : (i : Int) < (bs.length : Int) + (cs.length : Int) := by omega
      have i3 : (i : Int) < ((bs.length + cs.length : Nat) : Int) := by omega
      have SN3 : Strs wr (fun x => w1.heap.size ≤ x ∧ x < w2.heap.size) (.slice na (bs.length + cs.length) nc) (allN bs cs) := SN.out.chg hC.out (fun _ _ h => h)
      have HSZ := SN3.1 _ (List.getElem_mem hia)
      obtain ⟨g, off, cap', hv, hg, hcells⟩ := SN3.cellX i hia
      rw [allN_len] at hv
      injection hv with e1 e2 e3
      subst e1
      subst e3
      clear e2 SN3
      have ci := hcells i hia
      have HCELL := hide hcells
      have HN := hide (items_name bs cs i hii hia)
      have HAT := hide (chkI_at (itemsT bs cs) ((allN bs cs).take i) i hii)
      have TK := hide (take_snoc (allN bs cs) i hia)
      have IB := hide (items_base bs cs i hii)
      have IC := hide (items_const bs cs i hii)
      obtain ⟨s, hs⟩ : ∃ s, (allN bs cs)[i] = s := ⟨_, rfl⟩
      rw [hs] at ci HN HSZ TK
      have HS := hide hs
      have is := hide (isR_any s (by unfold maxLen at HSZ; omega) wr)
      have HSZ := hide HSZ
      clear hs hg hcells B3 HSZ
      go_wp2_with fail
      refine is.out.mono ?_
      rintro e w4 ⟨rfl, g4⟩
      have xP04 := g4.cell (fun h => h) xP0
      have xP14 := g4.cell (fun h => h) xP1
      have ci4 := g4.cell (fun h => h) ci
      have GC4 := hide (hC.out.trans g4)
      have GW4 := hide (GW.out.trans g4)
      have G4 := hide g4
      clear is g4 xP0 xP1 ci hC GW
      by_cases hwd : wordB s = true
      · rw [hwd]
        go_wp2_with fail
        go_loopw [5] (fun jv wr => ∃ j : Nat, j ≤ i ∧ jv = .int .i64 j ∧ Hid (inN ((allN bs cs).take j) s = false) ∧ Hid (Chg (fun _ => False) w4 wr)) (fun jv _ => i - (intOf jv).toNat)
        case atStart => exact ⟨0, Nat.zero_le _, rfl, hide (by simp [inN]), Chg.refl _ _⟩
        case round =>
          obtain ⟨j, hj, rfl, hNO, hC5⟩ := hrel
          have xP0 := hC5.out.cell (fun h => h) xP04
          have xP1 := hC5.out.cell (fun h => h) xP14
          have ci := hC5.out.cell (fun h => h) ci4
          have GC5 := hide (GC4.out.trans hC5.out)
          have GW5 := hide (GW4.out.trans hC5.out)
          clear xP04 xP14 ci4
          by_cases hjl : j < i
          · have j1 : (0 : Int) ≤ (j : Int) := by omega
            have j2 : (j : Int) < (i : Int) := by omega
            have j3 : (j : Int) < ((bs.length + cs.length : Nat) : Int) := by omega
            have j4 : (j : Int) < (bs.length : Int) + (cs.length : Int) := by omega
            have hja : j < (allN bs cs).length := by omega
            have cj := hC5.out.cell (fun h => h) (G4.out.cell (fun h => h) (HCELL.out j hja))
            have TJ := hide (take_snoc (allN bs cs) j hja)
            obtain ⟨t, ht⟩ : ∃ t, (allN bs cs)[j] = t := ⟨_, rfl⟩
            rw [ht] at cj TJ
            have HT := hide ht
            clear ht
            by_cases hst : t = s
            · have eb := toL_beq t s hst
              have HST := hide hst
              clear hst
              go_wp2_with fail
              refine wp_region_held_drew (S := (fun w' => w'.cell? ⟨g, off + j, none⟩ = some (.string t) ∧ w'.cell? ⟨g, off + i, none⟩ = some (.string s))) (by kernel_rfl) (by go_keep) (fun hHeld => ?_)
              first
                | (refine wpAnyH_take (i := 0) (v := undef) rfl (by kernel_rfl) (by kernel_rfl) (by kernel_rfl) (fun _ _ _ h => h) (Or.inr ⟨by rfl, rfl⟩) (by assumption) ?_)
                | (refine wpAnyH_take (i := 0) (v := ?_) rfl (by kernel_rfl) (by kernel_rfl) (by kernel_rfl) (fun _ _ _ h => h) (Or.inl ⟨by rfl, ?_⟩) (by assumption) ?_
                   rotate_left
                   (intro w hSw
                    (try dsimp only at hSw)
                    (go_simp <;> with_reducible rfl)))
              try simp only [Act.put, List.getElem_toArray, List.getElem_cons_zero, List.getElem_cons_succ, List.setIfInBounds_toArray, List.set_cons_zero, List.set_cons_succ]
              first
                | (refine wpAnyH_take (i := 1) (v := undef) rfl (by kernel_rfl) (by kernel_rfl) (by kernel_rfl) (fun _ _ _ h => h) (Or.inr ⟨by rfl, rfl⟩) (by assumption) ?_)
                | (refine wpAnyH_take (i := 1) (v := ?_) rfl (by kernel_rfl) (by kernel_rfl) (by kernel_rfl) (fun _ _ _ h => h) (Or.inl ⟨by rfl, ?_⟩) (by assumption) ?_
                   rotate_left
                   (intro w hSw
                    (try dsimp only at hSw)
                    (go_simp <;> with_reducible rfl)))
              try simp only [Act.put, List.getElem_toArray, List.getElem_cons_zero, List.getElem_cons_succ, List.setIfInBounds_toArray, List.set_cons_zero, List.set_cons_succ]
              first
                | (refine wpAnyH_take (i := 2) (v := undef) rfl (by kernel_rfl) (by kernel_rfl) (by kernel_rfl) (fun _ _ _ h => h) (Or.inr ⟨by rfl, rfl⟩) (by assumption) ?_)
                | (refine wpAnyH_take (i := 2) (v := ?_) rfl (by kernel_rfl) (by kernel_rfl) (by kernel_rfl) (fun _ _ _ h => h) (Or.inl ⟨by rfl, ?_⟩) (by assumption) ?_
                   rotate_left
                   (intro w hSw
                    (try dsimp only at hSw)
                    (go_simp <;> with_reducible rfl)))
              try simp only [Act.put, List.getElem_toArray, List.getElem_cons_zero, List.getElem_cons_succ, List.setIfInBounds_toArray, List.set_cons_zero, List.set_cons_succ]
              first
                | (refine wpAnyH_take (i := 3) (v := undef) rfl (by kernel_rfl) (by kernel_rfl) (by kernel_rfl) (fun _ _ _ h => h) (Or.inr ⟨by rfl, rfl⟩) (by assumption) ?_)
                | (refine wpAnyH_take (i := 3) (v := ?_) rfl (by kernel_rfl) (by kernel_rfl) (by kernel_rfl) (fun _ _ _ h => h) (Or.inl ⟨by rfl, ?_⟩) (by assumption) ?_
                   rotate_left
                   (intro w hSw
                    (try dsimp only at hSw)
                    (go_simp <;> with_reducible rfl)))
              try simp only [Act.put, List.getElem_toArray, List.getElem_cons_zero, List.getElem_cons_succ, List.setIfInBounds_toArray, List.set_cons_zero, List.set_cons_succ]
              first
                | (refine wpAnyH_take (i := 4) (v := undef) rfl (by kernel_rfl) (by kernel_rfl) (by kernel_rfl) (fun _ _ _ h => h) (Or.inr ⟨by rfl, rfl⟩) (by assumption) ?_)
                | (refine wpAnyH_take (i := 4) (v := ?_) rfl (by kernel_rfl) (by kernel_rfl) (by kernel_rfl) (fun _ _ _ h => h) (Or.inl ⟨by rfl, ?_⟩) (by assumption) ?_
                   rotate_left
                   (intro w hSw
                    (try dsimp only at hSw)
                    (go_simp <;> with_reducible rfl)))
              try simp only [Act.put, List.getElem_toArray, List.getElem_cons_zero, List.getElem_cons_succ, List.setIfInBounds_toArray, List.set_cons_zero, List.set_cons_succ]
              first
                | (refine wpAnyH_take (i := 5) (v := undef) rfl (by kernel_rfl) (by kernel_rfl) (by kernel_rfl) (fun _ _ _ h => h) (Or.inr ⟨by rfl, rfl⟩) (by assumption) ?_)
                | (refine wpAnyH_take (i := 5) (v := ?_) rfl (by kernel_rfl) (by kernel_rfl) (by kernel_rfl) (fun _ _ _ h => h) (Or.inl ⟨by rfl, ?_⟩) (by assumption) ?_
                   rotate_left
                   (intro w hSw
                    (try dsimp only at hSw)
                    (go_simp <;> with_reducible rfl)))
              try simp only [Act.put, List.getElem_toArray, List.getElem_cons_zero, List.getElem_cons_succ, List.setIfInBounds_toArray, List.set_cons_zero, List.set_cons_succ]
              first
                | (refine wpAnyH_take (i := 6) (v := undef) rfl (by kernel_rfl) (by kernel_rfl) (by kernel_rfl) (fun _ _ _ h => h) (Or.inr ⟨by rfl, rfl⟩) (by assumption) ?_)
                | (refine wpAnyH_take (i := 6) (v := ?_) rfl (by kernel_rfl) (by kernel_rfl) (by kernel_rfl) (fun _ _ _ h => h) (Or.inl ⟨by rfl, ?_⟩) (by assumption) ?_
                   rotate_left
                   (intro w hSw
                    (try dsimp only at hSw)
                    (go_simp <;> with_reducible rfl)))
              try simp only [Act.put, List.getElem_toArray, List.getElem_cons_zero, List.getElem_cons_succ, List.setIfInBounds_toArray, List.set_cons_zero, List.set_cons_succ]
              first
                | (refine wpAnyH_take (i := 7) (v := undef) rfl (by kernel_rfl) (by kernel_rfl) (by kernel_rfl) (fun _ _ _ h => h) (Or.inr ⟨by rfl, rfl⟩) (by assumption) ?_)
                | (refine wpAnyH_take (i := 7) (v := ?_) rfl (by kernel_rfl) (by kernel_rfl) (by kernel_rfl) (fun _ _ _ h => h) (Or.inl ⟨by rfl, ?_⟩) (by assumption) ?_
                   rotate_left
                   (intro w hSw
                    (try dsimp only at hSw)
                    (go_simp <;> with_reducible rfl)))
              try simp only [Act.put, List.getElem_toArray, List.getElem_cons_zero, List.getElem_cons_succ, List.setIfInBounds_toArray, List.set_cons_zero, List.set_cons_succ]
              first
                | (refine wpAnyH_take (i := 8) (v := undef) rfl (by kernel_rfl) (by kernel_rfl) (by kernel_rfl) (fun _ _ _ h => h) (Or.inr ⟨by rfl, rfl⟩) (by assumption) ?_)
                | (refine wpAnyH_take (i := 8) (v := ?_) rfl (by kernel_rfl) (by kernel_rfl) (by kernel_rfl) (fun _ _ _ h => h) (Or.inl ⟨by rfl, ?_⟩) (by assumption) ?_
                   rotate_left
                   (intro w hSw
                    (try dsimp only at hSw)
                    (go_simp <;> with_reducible rfl)))
              try simp only [Act.put, List.getElem_toArray, List.getElem_cons_zero, List.getElem_cons_succ, List.setIfInBounds_toArray, List.set_cons_zero, List.set_cons_succ]
              refine wpAnyH_done (by kernel_rfl) ?_ _
              go_wp2_with fail
              go_ret
              refine ⟨?_, GW5.out.drew⟩
              have h1 : inN ((allN bs cs).take i) s = true := in_take HT.out HST.out hjl hja
              have h2 : chkI [] (itemsT bs cs) = 4 := by
                rw [← HE.out, HAT.out, HN.out]
                have h3 : lookC ((allN bs cs).take i) s = 4 := by unfold lookC; rw [hwd, h1]; rfl
                rw [h3]; rfl
              first | rfl | (rw [h2]; rfl)
            · have eb := toL_bne t s hst
              have HST := hide hst
              clear hst
              go_wp2_with fail
              refine wp_region_held_drew (S := (fun w' => w'.cell? ⟨g, off + j, none⟩ = some (.string t) ∧ w'.cell? ⟨g, off + i, none⟩ = some (.string s))) (by kernel_rfl) (by go_keep) (fun hHeld => ?_)
              first
                | (refine wpAnyH_take (i := 0) (v := undef) rfl (by kernel_rfl) (by kernel_rfl) (by kernel_rfl) (fun _ _ _ h => h) (Or.inr ⟨by rfl, rfl⟩) (by assumption) ?_)
                | (refine wpAnyH_take (i := 0) (v := ?_) rfl (by kernel_rfl) (by kernel_rfl) (by kernel_rfl) (fun _ _ _ h => h) (Or.inl ⟨by rfl, ?_⟩) (by assumption) ?_
                   rotate_left
                   (intro w hSw
                    (try dsimp only at hSw)
                    (go_simp <;> with_reducible rfl)))
              try simp only [Act.put, List.getElem_toArray, List.getElem_cons_zero, List.getElem_cons_succ, List.setIfInBounds_toArray, List.set_cons_zero, List.set_cons_succ]
              first
                | (refine wpAnyH_take (i := 1) (v := undef) rfl (by kernel_rfl) (by kernel_rfl) (by kernel_rfl) (fun _ _ _ h => h) (Or.inr ⟨by rfl, rfl⟩) (by assumption) ?_)
                | (refine wpAnyH_take (i := 1) (v := ?_) rfl (by kernel_rfl) (by kernel_rfl) (by kernel_rfl) (fun _ _ _ h => h) (Or.inl ⟨by rfl, ?_⟩) (by assumption) ?_
                   rotate_left
                   (intro w hSw
                    (try dsimp only at hSw)
                    (go_simp <;> with_reducible rfl)))
              try simp only [Act.put, List.getElem_toArray, List.getElem_cons_zero, List.getElem_cons_succ, List.setIfInBounds_toArray, List.set_cons_zero, List.set_cons_succ]
              first
                | (refine wpAnyH_take (i := 2) (v := undef) rfl (by kernel_rfl) (by kernel_rfl) (by kernel_rfl) (fun _ _ _ h => h) (Or.inr ⟨by rfl, rfl⟩) (by assumption) ?_)
                | (refine wpAnyH_take (i := 2) (v := ?_) rfl (by kernel_rfl) (by kernel_rfl) (by kernel_rfl) (fun _ _ _ h => h) (Or.inl ⟨by rfl, ?_⟩) (by assumption) ?_
                   rotate_left
                   (intro w hSw
                    (try dsimp only at hSw)
                    (go_simp <;> with_reducible rfl)))
              try simp only [Act.put, List.getElem_toArray, List.getElem_cons_zero, List.getElem_cons_succ, List.setIfInBounds_toArray, List.set_cons_zero, List.set_cons_succ]
              first
                | (refine wpAnyH_take (i := 3) (v := undef) rfl (by kernel_rfl) (by kernel_rfl) (by kernel_rfl) (fun _ _ _ h => h) (Or.inr ⟨by rfl, rfl⟩) (by assumption) ?_)
                | (refine wpAnyH_take (i := 3) (v := ?_) rfl (by kernel_rfl) (by kernel_rfl) (by kernel_rfl) (fun _ _ _ h => h) (Or.inl ⟨by rfl, ?_⟩) (by assumption) ?_
                   rotate_left
                   (intro w hSw
                    (try dsimp only at hSw)
                    (go_simp <;> with_reducible rfl)))
              try simp only [Act.put, List.getElem_toArray, List.getElem_cons_zero, List.getElem_cons_succ, List.setIfInBounds_toArray, List.set_cons_zero, List.set_cons_succ]
              first
                | (refine wpAnyH_take (i := 4) (v := undef) rfl (by kernel_rfl) (by kernel_rfl) (by kernel_rfl) (fun _ _ _ h => h) (Or.inr ⟨by rfl, rfl⟩) (by assumption) ?_)
                | (refine wpAnyH_take (i := 4) (v := ?_) rfl (by kernel_rfl) (by kernel_rfl) (by kernel_rfl) (fun _ _ _ h => h) (Or.inl ⟨by rfl, ?_⟩) (by assumption) ?_
                   rotate_left
                   (intro w hSw
                    (try dsimp only at hSw)
                    (go_simp <;> with_reducible rfl)))
              try simp only [Act.put, List.getElem_toArray, List.getElem_cons_zero, List.getElem_cons_succ, List.setIfInBounds_toArray, List.set_cons_zero, List.set_cons_succ]
              first
                | (refine wpAnyH_take (i := 5) (v := undef) rfl (by kernel_rfl) (by kernel_rfl) (by kernel_rfl) (fun _ _ _ h => h) (Or.inr ⟨by rfl, rfl⟩) (by assumption) ?_)
                | (refine wpAnyH_take (i := 5) (v := ?_) rfl (by kernel_rfl) (by kernel_rfl) (by kernel_rfl) (fun _ _ _ h => h) (Or.inl ⟨by rfl, ?_⟩) (by assumption) ?_
                   rotate_left
                   (intro w hSw
                    (try dsimp only at hSw)
                    (go_simp <;> with_reducible rfl)))
              try simp only [Act.put, List.getElem_toArray, List.getElem_cons_zero, List.getElem_cons_succ, List.setIfInBounds_toArray, List.set_cons_zero, List.set_cons_succ]
              first
                | (refine wpAnyH_take (i := 6) (v := undef) rfl (by kernel_rfl) (by kernel_rfl) (by kernel_rfl) (fun _ _ _ h => h) (Or.inr ⟨by rfl, rfl⟩) (by assumption) ?_)
                | (refine wpAnyH_take (i := 6) (v := ?_) rfl (by kernel_rfl) (by kernel_rfl) (by kernel_rfl) (fun _ _ _ h => h) (Or.inl ⟨by rfl, ?_⟩) (by assumption) ?_
                   rotate_left
                   (intro w hSw
                    (try dsimp only at hSw)
                    (go_simp <;> with_reducible rfl)))
              try simp only [Act.put, List.getElem_toArray, List.getElem_cons_zero, List.getElem_cons_succ, List.setIfInBounds_toArray, List.set_cons_zero, List.set_cons_succ]
              first
                | (refine wpAnyH_take (i := 7) (v := undef) rfl (by kernel_rfl) (by kernel_rfl) (by kernel_rfl) (fun _ _ _ h => h) (Or.inr ⟨by rfl, rfl⟩) (by assumption) ?_)
                | (refine wpAnyH_take (i := 7) (v := ?_) rfl (by kernel_rfl) (by kernel_rfl) (by kernel_rfl) (fun _ _ _ h => h) (Or.inl ⟨by rfl, ?_⟩) (by assumption) ?_
                   rotate_left
                   (intro w hSw
                    (try dsimp only at hSw)
                    (go_simp <;> with_reducible rfl)))
              try simp only [Act.put, List.getElem_toArray, List.getElem_cons_zero, List.getElem_cons_succ, List.setIfInBounds_toArray, List.set_cons_zero, List.set_cons_succ]
              first
                | (refine wpAnyH_take (i := 8) (v := undef) rfl (by kernel_rfl) (by kernel_rfl) (by kernel_rfl) (fun _ _ _ h => h) (Or.inr ⟨by rfl, rfl⟩) (by assumption) ?_)
                | (refine wpAnyH_take (i := 8) (v := ?_) rfl (by kernel_rfl) (by kernel_rfl) (by kernel_rfl) (fun _ _ _ h => h) (Or.inl ⟨by rfl, ?_⟩) (by assumption) ?_
                   rotate_left
                   (intro w hSw
                    (try dsimp only at hSw)
                    (go_simp <;> with_reducible rfl)))
              try simp only [Act.put, List.getElem_toArray, List.getElem_cons_zero, List.getElem_cons_succ, List.setIfInBounds_toArray, List.set_cons_zero, List.set_cons_succ]
              refine wpAnyH_done (by kernel_rfl) ?_ _
              have F5 : Hid (inN ((allN bs cs).take (j + 1)) s = false) := hide (by rw [TJ.out]; exact inN_snoc hNO.out HST.out)
              have D5 := hide (hC5.out.drew)
              clear hC5
              go_wp2_with fail
              go_roundw
              case rel => exact ⟨j + 1, by omega, by go_num, F5, D5⟩
              case measure => simp [intOf]; omega
          · have hji : j = i := by omega
            subst hji
            have j2 : ¬ (j : Int) < (j : Int) := by omega
            have HLK : Hid (lookC ((allN bs cs).take j) s = 0) := hide (by unfold lookC; rw [hwd, hNO.out]; rfl)
            go_wp2_with fail
            by_cases hjb : j < bs.length
            · have k1 : ¬ (bs.length : Int) ≤ (j : Int) := by omega
              have NEXT : Hid (chkI ((allN bs cs).take (j + 1)) ((itemsT bs cs).drop (j + 1)) = chkI [] (itemsT bs cs)) := hide (by
                have h1 := HE.out
                rw [HAT.out, HN.out, if_pos HLK.out, if_pos (IB.out hjb)] at h1
                rw [TK.out]
                exact h1)
              refine wp_region_held_drew (S := (fun w' => w'.cell? ⟨P, 0, none⟩ = some (.slice ba bs.length bc))) (by kernel_rfl) (by go_keep) (fun hHeld => ?_)
              first
                | (refine wpAnyH_take (i := 0) (v := undef) rfl (by kernel_rfl) (by kernel_rfl) (by kernel_rfl) (fun _ _ _ h => h) (Or.inr ⟨by rfl, rfl⟩) (by assumption) ?_)
                | (refine wpAnyH_take (i := 0) (v := ?_) rfl (by kernel_rfl) (by kernel_rfl) (by kernel_rfl) (fun _ _ _ h => h) (Or.inl ⟨by rfl, ?_⟩) (by assumption) ?_
                   rotate_left
                   (intro w hSw
                    (try dsimp only at hSw)
                    (go_simp <;> with_reducible rfl)))
              try simp only [Act.put, List.getElem_toArray, List.getElem_cons_zero, List.getElem_cons_succ, List.setIfInBounds_toArray, List.set_cons_zero, List.set_cons_succ]
              first
                | (refine wpAnyH_take (i := 1) (v := undef) rfl (by kernel_rfl) (by kernel_rfl) (by kernel_rfl) (fun _ _ _ h => h) (Or.inr ⟨by rfl, rfl⟩) (by assumption) ?_)
                | (refine wpAnyH_take (i := 1) (v := ?_) rfl (by kernel_rfl) (by kernel_rfl) (by kernel_rfl) (fun _ _ _ h => h) (Or.inl ⟨by rfl, ?_⟩) (by assumption) ?_
                   rotate_left
                   (intro w hSw
                    (try dsimp only at hSw)
                    (go_simp <;> with_reducible rfl)))
              try simp only [Act.put, List.getElem_toArray, List.getElem_cons_zero, List.getElem_cons_succ, List.setIfInBounds_toArray, List.set_cons_zero, List.set_cons_succ]
              first
                | (refine wpAnyH_take (i := 2) (v := undef) rfl (by kernel_rfl) (by kernel_rfl) (by kernel_rfl) (fun _ _ _ h => h) (Or.inr ⟨by rfl, rfl⟩) (by assumption) ?_)
                | (refine wpAnyH_take (i := 2) (v := ?_) rfl (by kernel_rfl) (by kernel_rfl) (by kernel_rfl) (fun _ _ _ h => h) (Or.inl ⟨by rfl, ?_⟩) (by assumption) ?_
                   rotate_left
                   (intro w hSw
                    (try dsimp only at hSw)
                    (go_simp <;> with_reducible rfl)))
              try simp only [Act.put, List.getElem_toArray, List.getElem_cons_zero, List.getElem_cons_succ, List.setIfInBounds_toArray, List.set_cons_zero, List.set_cons_succ]
              first
                | (refine wpAnyH_take (i := 3) (v := undef) rfl (by kernel_rfl) (by kernel_rfl) (by kernel_rfl) (fun _ _ _ h => h) (Or.inr ⟨by rfl, rfl⟩) (by assumption) ?_)
                | (refine wpAnyH_take (i := 3) (v := ?_) rfl (by kernel_rfl) (by kernel_rfl) (by kernel_rfl) (fun _ _ _ h => h) (Or.inl ⟨by rfl, ?_⟩) (by assumption) ?_
                   rotate_left
                   (intro w hSw
                    (try dsimp only at hSw)
                    (go_simp <;> with_reducible rfl)))
              try simp only [Act.put, List.getElem_toArray, List.getElem_cons_zero, List.getElem_cons_succ, List.setIfInBounds_toArray, List.set_cons_zero, List.set_cons_succ]
              first
                | (refine wpAnyH_take (i := 4) (v := undef) rfl (by kernel_rfl) (by kernel_rfl) (by kernel_rfl) (fun _ _ _ h => h) (Or.inr ⟨by rfl, rfl⟩) (by assumption) ?_)
                | (refine wpAnyH_take (i := 4) (v := ?_) rfl (by kernel_rfl) (by kernel_rfl) (by kernel_rfl) (fun _ _ _ h => h) (Or.inl ⟨by rfl, ?_⟩) (by assumption) ?_
                   rotate_left
                   (intro w hSw
                    (try dsimp only at hSw)
                    (go_simp <;> with_reducible rfl)))
              try simp only [Act.put, List.getElem_toArray, List.getElem_cons_zero, List.getElem_cons_succ, List.setIfInBounds_toArray, List.set_cons_zero, List.set_cons_succ]
              first
                | (refine wpAnyH_take (i := 5) (v := undef) rfl (by kernel_rfl) (by kernel_rfl) (by kernel_rfl) (fun _ _ _ h => h) (Or.inr ⟨by rfl, rfl⟩) (by assumption) ?_)
                | (refine wpAnyH_take (i := 5) (v := ?_) rfl (by kernel_rfl) (by kernel_rfl) (by kernel_rfl) (fun _ _ _ h => h) (Or.inl ⟨by rfl, ?_⟩) (by assumption) ?_
                   rotate_left
                   (intro w hSw
                    (try dsimp only at hSw)
                    (go_simp <;> with_reducible rfl)))
              try simp only [Act.put, List.getElem_toArray, List.getElem_cons_zero, List.getElem_cons_succ, List.setIfInBounds_toArray, List.set_cons_zero, List.set_cons_succ]
              refine wpAnyH_take (i := 6) (v := undef) rfl (by kernel_rfl) (by kernel_rfl) (by kernel_rfl) (fun _ _ _ h => h) (Or.inr ⟨by rfl, rfl⟩) (by assumption) ?_
              try simp only [Act.put, List.getElem_toArray, List.getElem_cons_zero, List.getElem_cons_succ, List.setIfInBounds_toArray, List.set_cons_zero, List.set_cons_succ]
              refine wpAnyH_take (i := 7) (v := undef) rfl (by kernel_rfl) (by kernel_rfl) (by kernel_rfl) (fun _ _ _ h => h) (Or.inr ⟨by rfl, rfl⟩) (by assumption) ?_
              try simp only [Act.put, List.getElem_toArray, List.getElem_cons_zero, List.getElem_cons_succ, List.setIfInBounds_toArray, List.set_cons_zero, List.set_cons_succ]
              refine wpAnyH_take (i := 8) (v := undef) rfl (by kernel_rfl) (by kernel_rfl) (by kernel_rfl) (fun _ _ _ h => h) (Or.inr ⟨by rfl, rfl⟩) (by assumption) ?_
              try simp only [Act.put, List.getElem_toArray, List.getElem_cons_zero, List.getElem_cons_succ, List.setIfInBounds_toArray, List.set_cons_zero, List.set_cons_succ]
              refine wpAnyH_take (i := 9) (v := undef) rfl (by kernel_rfl) (by kernel_rfl) (by kernel_rfl) (fun _ _ _ h => h) (Or.inr ⟨by rfl, rfl⟩) (by assumption) ?_
              try simp only [Act.put, List.getElem_toArray, List.getElem_cons_zero, List.getElem_cons_succ, List.setIfInBounds_toArray, List.set_cons_zero, List.set_cons_succ]
              refine wpAnyH_take (i := 10) (v := undef) rfl (by kernel_rfl) (by kernel_rfl) (by kernel_rfl) (fun _ _ _ h => h) (Or.inr ⟨by rfl, rfl⟩) (by assumption) ?_
              try simp only [Act.put, List.getElem_toArray, List.getElem_cons_zero, List.getElem_cons_succ, List.setIfInBounds_toArray, List.set_cons_zero, List.set_cons_succ]
              refine wpAnyH_take (i := 11) (v := undef) rfl (by kernel_rfl) (by kernel_rfl) (by kernel_rfl) (fun _ _ _ h => h) (Or.inr ⟨by rfl, rfl⟩) (by assumption) ?_
              try simp only [Act.put, List.getElem_toArray, List.getElem_cons_zero, List.getElem_cons_succ, List.setIfInBounds_toArray, List.set_cons_zero, List.set_cons_succ]
              refine wpAnyH_take (i := 12) (v := undef) rfl (by kernel_rfl) (by kernel_rfl) (by kernel_rfl) (fun _ _ _ h => h) (Or.inr ⟨by rfl, rfl⟩) (by assumption) ?_
              try simp only [Act.put, List.getElem_toArray, List.getElem_cons_zero, List.getElem_cons_succ, List.setIfInBounds_toArray, List.set_cons_zero, List.set_cons_succ]
              refine wpAnyH_take (i := 13) (v := undef) rfl (by kernel_rfl) (by kernel_rfl) (by kernel_rfl) (fun _ _ _ h => h) (Or.inr ⟨by rfl, rfl⟩) (by assumption) ?_
              try simp only [Act.put, List.getElem_toArray, List.getElem_cons_zero, List.getElem_cons_succ, List.setIfInBounds_toArray, List.set_cons_zero, List.set_cons_succ]
              refine wpAnyH_take (i := 14) (v := undef) rfl (by kernel_rfl) (by kernel_rfl) (by kernel_rfl) (fun _ _ _ h => h) (Or.inr ⟨by rfl, rfl⟩) (by assumption) ?_
              try simp only [Act.put, List.getElem_toArray, List.getElem_cons_zero, List.getElem_cons_succ, List.setIfInBounds_toArray, List.set_cons_zero, List.set_cons_succ]
              refine wpAnyH_take (i := 15) (v := undef) rfl (by kernel_rfl) (by kernel_rfl) (by kernel_rfl) (fun _ _ _ h => h) (Or.inr ⟨by rfl, rfl⟩) (by assumption) ?_
              try simp only [Act.put, List.getElem_toArray, List.getElem_cons_zero, List.getElem_cons_succ, List.setIfInBounds_toArray, List.set_cons_zero, List.set_cons_succ]
              refine wpAnyH_take (i := 16) (v := undef) rfl (by kernel_rfl) (by kernel_rfl) (by kernel_rfl) (fun _ _ _ h => h) (Or.inr ⟨by rfl, rfl⟩) (by assumption) ?_
              try simp only [Act.put, List.getElem_toArray, List.getElem_cons_zero, List.getElem_cons_succ, List.setIfInBounds_toArray, List.set_cons_zero, List.set_cons_succ]
              refine wpAnyH_take (i := 17) (v := undef) rfl (by kernel_rfl) (by kernel_rfl) (by kernel_rfl) (fun _ _ _ h => h) (Or.inr ⟨by rfl, rfl⟩) (by assumption) ?_
              try simp only [Act.put, List.getElem_toArray, List.getElem_cons_zero, List.getElem_cons_succ, List.setIfInBounds_toArray, List.set_cons_zero, List.set_cons_succ]
              refine wpAnyH_take (i := 18) (v := undef) rfl (by kernel_rfl) (by kernel_rfl) (by kernel_rfl) (fun _ _ _ h => h) (Or.inr ⟨by rfl, rfl⟩) (by assumption) ?_
              try simp only [Act.put, List.getElem_toArray, List.getElem_cons_zero, List.getElem_cons_succ, List.setIfInBounds_toArray, List.set_cons_zero, List.set_cons_succ]
              refine wpAnyH_take (i := 19) (v := undef) rfl (by kernel_rfl) (by kernel_rfl) (by kernel_rfl) (fun _ _ _ h => h) (Or.inr ⟨by rfl, rfl⟩) (by assumption) ?_
              try simp only [Act.put, List.getElem_toArray, List.getElem_cons_zero, List.getElem_cons_succ, List.setIfInBounds_toArray, List.set_cons_zero, List.set_cons_succ]
              refine wpAnyH_take (i := 20) (v := undef) rfl (by kernel_rfl) (by kernel_rfl) (by kernel_rfl) (fun _ _ _ h => h) (Or.inr ⟨by rfl, rfl⟩) (by assumption) ?_
              try simp only [Act.put, List.getElem_toArray, List.getElem_cons_zero, List.getElem_cons_succ, List.setIfInBounds_toArray, List.set_cons_zero, List.set_cons_succ]
              first
                | (refine wpAnyH_take (i := 21) (v := undef) rfl (by kernel_rfl) (by kernel_rfl) (by kernel_rfl) (fun _ _ _ h => h) (Or.inr ⟨by rfl, rfl⟩) (by assumption) ?_)
                | (refine wpAnyH_take (i := 21) (v := ?_) rfl (by kernel_rfl) (by kernel_rfl) (by kernel_rfl) (fun _ _ _ h => h) (Or.inl ⟨by rfl, ?_⟩) (by assumption) ?_
                   rotate_left
                   (intro w hSw
                    (try dsimp only at hSw)
                    (go_simp <;> with_reducible rfl)))
              try simp only [Act.put, List.getElem_toArray, List.getElem_cons_zero, List.getElem_cons_succ, List.setIfInBounds_toArray, List.set_cons_zero, List.set_cons_succ]
              refine wpAnyH_done (by kernel_rfl) ?_ _
              have D5 := hide (GC5.out.drew)
              go_wp2_with fail
              go_roundw
              case rel => exact ⟨j + 1, by omega, by go_num, NEXT, D5⟩
              case measure => simp [intOf]; omega
            · obtain ⟨k, hk⟩ : ∃ k, j = bs.length + k := ⟨j - bs.length, by omega⟩
              have hkc : k < cs.length := by omega
              have k1 : (bs.length : Int) ≤ (j : Int) := by omega
              have k2 : (j : Int) - (bs.length : Int) = (k : Int) := by omega
              have k5 : bs.length ≤ j := by omega
              have kw : IntKind.i64.wrap (k : Int) = (k : Int) := by simp [IntKind.wrap, IntKind.bits, IntKind.signed]; omega
              have kt : ((k : Int)).toNat = k := by omega
              have kd : decide ((bs.length : Int) ≤ (j : Int)) = true := decide_eq_true k1
              have k3 : (k : Int) < (cs.length : Int) := by omega
              have k4 : (0 : Int) ≤ (k : Int) := by omega
              have IK := hide (IC.out k hk hkc)
              clear hk
              obtain ⟨hszc, la, lc, hlv, hl⟩ := HC2.out.chg GC5.out (fun _ _ h => h)
              rcases hl with h0 | ⟨gc, offc, rfl, hgc, hl⟩
              · rw [h0] at hkc; exact absurd hkc (Nat.not_lt_zero _)
              injection hlv with e1 e2 e3
              subst e1
              subst e3
              clear e2
              obtain ⟨d0, ⟨vi, d1, ti⟩, d2⟩ := hl k hkc
              obtain ⟨ka, kc, rfl, _⟩ := id ti
              have hz := (hszc _ (List.getElem_mem hkc)).2
              have rr := hide (refRight_any cs[k].2.1 (by omega) (.slice ka cs[k].2.1.len kc) cs[k].2.2 (bs.length : Int) X wr.drew (fun x hx => Nat.lt_of_lt_of_le (HX2.out x hx) GC5.out.drew.size) (ti.chg ((Chg.refl (fun _ => False) wr).drew) (fun _ _ h => h)))
              obtain ⟨q, hq⟩ : ∃ q, goodL (bs.length : Int) ((1, cs[k].2.2) :: nodes 2 cs[k].2.1) = q := ⟨_, rfl⟩
              rw [hq] at rr IK
              clear hl ti hq hz hszc d0
              generalize cs[k] = c at *
              obtain ⟨nm, kk, kb⟩ := c
              dsimp only at d1 d2 rr
              have NEXT : Hid (chkI [] (itemsT bs cs) = if q = true then chkI ((allN bs cs).take (j + 1)) ((itemsT bs cs).drop (j + 1)) else 5) := hide (by
                rw [← HE.out, HAT.out, HN.out, if_pos HLK.out, IK.out, TK.out])
              refine wp_region_held_drew (S := (fun w' => w'.cell? ⟨P, 0, none⟩ = some (.slice ba bs.length bc) ∧ w'.cell? ⟨P, 1, none⟩ = some (.slice (some ⟨gc, offc, none⟩) cs.length cc) ∧ w'.cell? ⟨gc, offc + k * 3 + 1, none⟩ = some (.slice ka kk.len kc) ∧ w'.cell? ⟨gc, offc + k * 3 + 2, none⟩ = some (.int .i64 kb))) (by kernel_rfl) (by go_keep) (fun hHeld => ?_)
              first
                | (refine wpAnyH_take (i := 0) (v := undef) rfl (by kernel_rfl) (by kernel_rfl) (by kernel_rfl) (fun _ _ _ h => h) (Or.inr ⟨by rfl, rfl⟩) (by assumption) ?_)
                | (refine wpAnyH_take (i := 0) (v := ?_) rfl (by kernel_rfl) (by kernel_rfl) (by kernel_rfl) (fun _ _ _ h => h) (Or.inl ⟨by rfl, ?_⟩) (by assumption) ?_
                   rotate_left
                   (intro w hSw
                    (try dsimp only at hSw)
                    (go_simp <;> with_reducible rfl)))
              try simp only [Act.put, List.getElem_toArray, List.getElem_cons_zero, List.getElem_cons_succ, List.setIfInBounds_toArray, List.set_cons_zero, List.set_cons_succ]
              first
                | (refine wpAnyH_take (i := 1) (v := undef) rfl (by kernel_rfl) (by kernel_rfl) (by kernel_rfl) (fun _ _ _ h => h) (Or.inr ⟨by rfl, rfl⟩) (by assumption) ?_)
                | (refine wpAnyH_take (i := 1) (v := ?_) rfl (by kernel_rfl) (by kernel_rfl) (by kernel_rfl) (fun _ _ _ h => h) (Or.inl ⟨by rfl, ?_⟩) (by assumption) ?_
                   rotate_left
                   (intro w hSw
                    (try dsimp only at hSw)
                    (go_simp <;> with_reducible rfl)))
              try simp only [Act.put, List.getElem_toArray, List.getElem_cons_zero, List.getElem_cons_succ, List.setIfInBounds_toArray, List.set_cons_zero, List.set_cons_succ]
              first
                | (refine wpAnyH_take (i := 2) (v := undef) rfl (by kernel_rfl) (by kernel_rfl) (by kernel_rfl) (fun _ _ _ h => h) (Or.inr ⟨by rfl, rfl⟩) (by assumption) ?_)
                | (refine wpAnyH_take (i := 2) (v := ?_) rfl (by kernel_rfl) (by kernel_rfl) (by kernel_rfl) (fun _ _ _ h => h) (Or.inl ⟨by rfl, ?_⟩) (by assumption) ?_
                   rotate_left
                   (intro w hSw
                    (try dsimp only at hSw)
                    (go_simp <;> with_reducible rfl)))
              try simp only [Act.put, List.getElem_toArray, List.getElem_cons_zero, List.getElem_cons_succ, List.setIfInBounds_toArray, List.set_cons_zero, List.set_cons_succ]
              first
                | (refine wpAnyH_take (i := 3) (v := undef) rfl (by kernel_rfl) (by kernel_rfl) (by kernel_rfl) (fun _ _ _ h => h) (Or.inr ⟨by rfl, rfl⟩) (by assumption) ?_)
                | (refine wpAnyH_take (i := 3) (v := ?_) rfl (by kernel_rfl) (by kernel_rfl) (by kernel_rfl) (fun _ _ _ h => h) (Or.inl ⟨by rfl, ?_⟩) (by assumption) ?_
                   rotate_left
                   (intro w hSw
                    (try dsimp only at hSw)
                    (go_simp <;> with_reducible rfl)))
              try simp only [Act.put, List.getElem_toArray, List.getElem_cons_zero, List.getElem_cons_succ, List.setIfInBounds_toArray, List.set_cons_zero, List.set_cons_succ]
              first
                | (refine wpAnyH_take (i := 4) (v := undef) rfl (by kernel_rfl) (by kernel_rfl) (by kernel_rfl) (fun _ _ _ h => h) (Or.inr ⟨by rfl, rfl⟩) (by assumption) ?_)
                | (refine wpAnyH_take (i := 4) (v := ?_) rfl (by kernel_rfl) (by kernel_rfl) (by kernel_rfl) (fun _ _ _ h => h) (Or.inl ⟨by rfl, ?_⟩) (by assumption) ?_
                   rotate_left
                   (intro w hSw
                    (try dsimp only at hSw)
                    (go_simp <;> with_reducible rfl)))
              try simp only [Act.put, List.getElem_toArray, List.getElem_cons_zero, List.getElem_cons_succ, List.setIfInBounds_toArray, List.set_cons_zero, List.set_cons_succ]
              first
                | (refine wpAnyH_take (i := 5) (v := undef) rfl (by kernel_rfl) (by kernel_rfl) (by kernel_rfl) (fun _ _ _ h => h) (Or.inr ⟨by rfl, rfl⟩) (by assumption) ?_)
                | (refine wpAnyH_take (i := 5) (v := ?_) rfl (by kernel_rfl) (by kernel_rfl) (by kernel_rfl) (fun _ _ _ h => h) (Or.inl ⟨by rfl, ?_⟩) (by assumption) ?_
                   rotate_left
                   (intro w hSw
                    (try dsimp only at hSw)
                    (go_simp <;> with_reducible rfl)))
              try simp only [Act.put, List.getElem_toArray, List.getElem_cons_zero, List.getElem_cons_succ, List.setIfInBounds_toArray, List.set_cons_zero, List.set_cons_succ]
              first
                | (refine wpAnyH_take (i := 6) (v := undef) rfl (by kernel_rfl) (by kernel_rfl) (by kernel_rfl) (fun _ _ _ h => h) (Or.inr ⟨by rfl, rfl⟩) (by assumption) ?_)
                | (refine wpAnyH_take (i := 6) (v := ?_) rfl (by kernel_rfl) (by kernel_rfl) (by kernel_rfl) (fun _ _ _ h => h) (Or.inl ⟨by rfl, ?_⟩) (by assumption) ?_
                   rotate_left
                   (intro w hSw
                    (try dsimp only at hSw)
                    (go_simp <;> with_reducible rfl)))
              try simp only [Act.put, List.getElem_toArray, List.getElem_cons_zero, List.getElem_cons_succ, List.setIfInBounds_toArray, List.set_cons_zero, List.set_cons_succ]
              first
                | (refine wpAnyH_take (i := 7) (v := undef) rfl (by kernel_rfl) (by kernel_rfl) (by kernel_rfl) (fun _ _ _ h => h) (Or.inr ⟨by rfl, rfl⟩) (by assumption) ?_)
                | (refine wpAnyH_take (i := 7) (v := ?_) rfl (by kernel_rfl) (by kernel_rfl) (by kernel_rfl) (fun _ _ _ h => h) (Or.inl ⟨by rfl, ?_⟩) (by assumption) ?_
                   rotate_left
                   (intro w hSw
                    (try dsimp only at hSw)
                    (go_simp <;> with_reducible rfl)))
              try simp only [Act.put, List.getElem_toArray, List.getElem_cons_zero, List.getElem_cons_succ, List.setIfInBounds_toArray, List.set_cons_zero, List.set_cons_succ]
              first
                | (refine wpAnyH_take (i := 8) (v := undef) rfl (by kernel_rfl) (by kernel_rfl) (by kernel_rfl) (fun _ _ _ h => h) (Or.inr ⟨by rfl, rfl⟩) (by assumption) ?_)
                | (refine wpAnyH_take (i := 8) (v := ?_) rfl (by kernel_rfl) (by kernel_rfl) (by kernel_rfl) (fun _ _ _ h => h) (Or.inl ⟨by rfl, ?_⟩) (by assumption) ?_
                   rotate_left
                   (intro w hSw
                    (try dsimp only at hSw)
                    (go_simp <;> with_reducible rfl)))
              try simp only [Act.put, List.getElem_toArray, List.getElem_cons_zero, List.getElem_cons_succ, List.setIfInBounds_toArray, List.set_cons_zero, List.set_cons_succ]
              first
                | (refine wpAnyH_take (i := 9) (v := undef) rfl (by kernel_rfl) (by kernel_rfl) (by kernel_rfl) (fun _ _ _ h => h) (Or.inr ⟨by rfl, rfl⟩) (by assumption) ?_)
                | (refine wpAnyH_take (i := 9) (v := ?_) rfl (by kernel_rfl) (by kernel_rfl) (by kernel_rfl) (fun _ _ _ h => h) (Or.inl ⟨by rfl, ?_⟩) (by assumption) ?_
                   rotate_left
                   (intro w hSw
                    (try dsimp only at hSw)
                    (go_simp <;> with_reducible rfl)))
              try simp only [Act.put, List.getElem_toArray, List.getElem_cons_zero, List.getElem_cons_succ, List.setIfInBounds_toArray, List.set_cons_zero, List.set_cons_succ]
              first
                | (refine wpAnyH_take (i := 10) (v := undef) rfl (by kernel_rfl) (by kernel_rfl) (by kernel_rfl) (fun _ _ _ h => h) (Or.inr ⟨by rfl, rfl⟩) (by assumption) ?_)
                | (refine wpAnyH_take (i := 10) (v := ?_) rfl (by kernel_rfl) (by kernel_rfl) (by kernel_rfl) (fun _ _ _ h => h) (Or.inl ⟨by rfl, ?_⟩) (by assumption) ?_
                   rotate_left
                   (intro w hSw
                    (try dsimp only at hSw)
                    (go_simp <;> with_reducible rfl)))
              try simp only [Act.put, List.getElem_toArray, List.getElem_cons_zero, List.getElem_cons_succ, List.setIfInBounds_toArray, List.set_cons_zero, List.set_cons_succ]
              first
                | (refine wpAnyH_take (i := 11) (v := undef) rfl (by kernel_rfl) (by kernel_rfl) (by kernel_rfl) (fun _ _ _ h => h) (Or.inr ⟨by rfl, rfl⟩) (by assumption) ?_)
                | (refine wpAnyH_take (i := 11) (v := ?_) rfl (by kernel_rfl) (by kernel_rfl) (by kernel_rfl) (fun _ _ _ h => h) (Or.inl ⟨by rfl, ?_⟩) (by assumption) ?_
                   rotate_left
                   (intro w hSw
                    (try dsimp only at hSw)
                    (go_simp <;> with_reducible rfl)))
              try simp only [Act.put, List.getElem_toArray, List.getElem_cons_zero, List.getElem_cons_succ, List.setIfInBounds_toArray, List.set_cons_zero, List.set_cons_succ]
              first
                | (refine wpAnyH_take (i := 12) (v := undef) rfl (by kernel_rfl) (by kernel_rfl) (by kernel_rfl) (fun _ _ _ h => h) (Or.inr ⟨by rfl, rfl⟩) (by assumption) ?_)
                | (refine wpAnyH_take (i := 12) (v := ?_) rfl (by kernel_rfl) (by kernel_rfl) (by kernel_rfl) (fun _ _ _ h => h) (Or.inl ⟨by rfl, ?_⟩) (by assumption) ?_
                   rotate_left
                   (intro w hSw
                    (try dsimp only at hSw)
                    (go_simp <;> with_reducible rfl)))
              try simp only [Act.put, List.getElem_toArray, List.getElem_cons_zero, List.getElem_cons_succ, List.setIfInBounds_toArray, List.set_cons_zero, List.set_cons_succ]
              first
                | (refine wpAnyH_take (i := 13) (v := undef) rfl (by kernel_rfl) (by kernel_rfl) (by kernel_rfl) (fun _ _ _ h => h) (Or.inr ⟨by rfl, rfl⟩) (by assumption) ?_)
                | (refine wpAnyH_take (i := 13) (v := ?_) rfl (by kernel_rfl) (by kernel_rfl) (by kernel_rfl) (fun _ _ _ h => h) (Or.inl ⟨by rfl, ?_⟩) (by assumption) ?_
                   rotate_left
                   (intro w hSw
                    (try dsimp only at hSw)
                    (go_simp <;> with_reducible rfl)))
              try simp only [Act.put, List.getElem_toArray, List.getElem_cons_zero, List.getElem_cons_succ, List.setIfInBounds_toArray, List.set_cons_zero, List.set_cons_succ]
              first
                | (refine wpAnyH_take (i := 14) (v := undef) rfl (by kernel_rfl) (by kernel_rfl) (by kernel_rfl) (fun _ _ _ h => h) (Or.inr ⟨by rfl, rfl⟩) (by assumption) ?_)
                | (refine wpAnyH_take (i := 14) (v := ?_) rfl (by kernel_rfl) (by kernel_rfl) (by kernel_rfl) (fun _ _ _ h => h) (Or.inl ⟨by rfl, ?_⟩) (by assumption) ?_
                   rotate_left
                   (intro w hSw
                    (try dsimp only at hSw)
                    (go_simp <;> with_reducible rfl)))
              try simp only [Act.put, List.getElem_toArray, List.getElem_cons_zero, List.getElem_cons_succ, List.setIfInBounds_toArray, List.set_cons_zero, List.set_cons_succ]
              first
                | (refine wpAnyH_take (i := 15) (v := undef) rfl (by kernel_rfl) (by kernel_rfl) (by kernel_rfl) (fun _ _ _ h => h) (Or.inr ⟨by rfl, rfl⟩) (by assumption) ?_)
                | (refine wpAnyH_take (i := 15) (v := ?_) rfl (by kernel_rfl) (by kernel_rfl) (by kernel_rfl) (fun _ _ _ h => h) (Or.inl ⟨by rfl, ?_⟩) (by assumption) ?_
                   rotate_left
                   (intro w hSw
                    (try dsimp only at hSw)
                    (go_simp <;> with_reducible rfl)))
              try simp only [Act.put, List.getElem_toArray, List.getElem_cons_zero, List.getElem_cons_succ, List.setIfInBounds_toArray, List.set_cons_zero, List.set_cons_succ]
              first
                | (refine wpAnyH_take (i := 16) (v := undef) rfl (by kernel_rfl) (by kernel_rfl) (by kernel_rfl) (fun _ _ _ h => h) (Or.inr ⟨by rfl, rfl⟩) (by assumption) ?_)
                | (refine wpAnyH_take (i := 16) (v := ?_) rfl (by kernel_rfl) (by kernel_rfl) (by kernel_rfl) (fun _ _ _ h => h) (Or.inl ⟨by rfl, ?_⟩) (by assumption) ?_
                   rotate_left
                   (intro w hSw
                    (try dsimp only at hSw)
                    (go_simp <;> with_reducible rfl)))
              try simp only [Act.put, List.getElem_toArray, List.getElem_cons_zero, List.getElem_cons_succ, List.setIfInBounds_toArray, List.set_cons_zero, List.set_cons_succ]
              first
                | (refine wpAnyH_take (i := 17) (v := undef) rfl (by kernel_rfl) (by kernel_rfl) (by kernel_rfl) (fun _ _ _ h => h) (Or.inr ⟨by rfl, rfl⟩) (by assumption) ?_)
                | (refine wpAnyH_take (i := 17) (v := ?_) rfl (by kernel_rfl) (by kernel_rfl) (by kernel_rfl) (fun _ _ _ h => h) (Or.inl ⟨by rfl, ?_⟩) (by assumption) ?_
                   rotate_left
                   (intro w hSw
                    (try dsimp only at hSw)
                    (go_simp <;> with_reducible rfl)))
              try simp only [Act.put, List.getElem_toArray, List.getElem_cons_zero, List.getElem_cons_succ, List.setIfInBounds_toArray, List.set_cons_zero, List.set_cons_succ]
              first
                | (refine wpAnyH_take (i := 18) (v := undef) rfl (by kernel_rfl) (by kernel_rfl) (by kernel_rfl) (fun _ _ _ h => h) (Or.inr ⟨by rfl, rfl⟩) (by assumption) ?_)
                | (refine wpAnyH_take (i := 18) (v := ?_) rfl (by kernel_rfl) (by kernel_rfl) (by kernel_rfl) (fun _ _ _ h => h) (Or.inl ⟨by rfl, ?_⟩) (by assumption) ?_
                   rotate_left
                   (intro w hSw
                    (try dsimp only at hSw)
                    (go_simp <;> with_reducible rfl)))
              try simp only [Act.put, List.getElem_toArray, List.getElem_cons_zero, List.getElem_cons_succ, List.setIfInBounds_toArray, List.set_cons_zero, List.set_cons_succ]
              refine wpAnyH_ready (rs := [19]) (by kernel_rfl) (by simp) ?_
              refine AllReadyH.cons (i := 19) (o := _) rfl (fun K hK => ?_) ?_
              rotate_left
              · exact AllReadyH.nil
              go_simp
              refine rr.out.mono ?_
              rintro e w6 ⟨rfl, g6'⟩
              have g6 := (Chg.refl (fun _ => False) wr).drew.trans g6'
              have xP06 := g6.cell (fun h => h) xP0
              have xP16 := g6.cell (fun h => h) xP1
              have d16 := g6.cell (fun h => h) d1
              have d26 := g6.cell (fun h => h) d2
              have GC6 := hide (GC5.out.trans g6)
              have GW6 := hide (GW5.out.trans g6)
              clear g6 g6' GC5 GW5
              go_simp
              refine hK.out _ _ ⟨xP06, xP16, d16, d26⟩ (fun hHeld => ?_)
              clear hK K
              try simp only [Act.put, List.getElem_toArray, List.getElem_cons_zero, List.getElem_cons_succ, List.setIfInBounds_toArray, List.set_cons_zero, List.set_cons_succ]
              first
                | (refine wpAnyH_take (i := 20) (v := undef) rfl (by kernel_rfl) (by kernel_rfl) (by kernel_rfl) (fun _ _ _ h => h) (Or.inr ⟨by rfl, rfl⟩) (by assumption) ?_)
                | (refine wpAnyH_take (i := 20) (v := ?_) rfl (by kernel_rfl) (by kernel_rfl) (by kernel_rfl) (fun _ _ _ h => h) (Or.inl ⟨by rfl, ?_⟩) (by assumption) ?_
                   rotate_left
                   (intro w hSw
                    (try dsimp only at hSw)
                    (go_simp <;> with_reducible rfl)))
              try simp only [Act.put, List.getElem_toArray, List.getElem_cons_zero, List.getElem_cons_succ, List.setIfInBounds_toArray, List.set_cons_zero, List.set_cons_succ]
              first
                | (refine wpAnyH_take (i := 21) (v := undef) rfl (by kernel_rfl) (by kernel_rfl) (by kernel_rfl) (fun _ _ _ h => h) (Or.inr ⟨by rfl, rfl⟩) (by assumption) ?_)
                | (refine wpAnyH_take (i := 21) (v := ?_) rfl (by kernel_rfl) (by kernel_rfl) (by kernel_rfl) (fun _ _ _ h => h) (Or.inl ⟨by rfl, ?_⟩) (by assumption) ?_
                   rotate_left
                   (intro w hSw
                    (try dsimp only at hSw)
                    (go_simp <;> with_reducible rfl)))
              try simp only [Act.put, List.getElem_toArray, List.getElem_cons_zero, List.getElem_cons_succ, List.setIfInBounds_toArray, List.set_cons_zero, List.set_cons_succ]
              refine wpAnyH_done (by kernel_rfl) ?_ _
              cases q with
              | true =>
                have NX : Hid (chkI ((allN bs cs).take (j + 1)) ((itemsT bs cs).drop (j + 1)) = chkI [] (itemsT bs cs)) := hide (by rw [NEXT.out, if_pos rfl])
                go_wp2_with fail
                go_roundw
                case rel => exact ⟨j + 1, by omega, by go_num, NX, GC6⟩
                case measure => simp [intOf]; omega
              | false =>
                have NX : chkI [] (itemsT bs cs) = 5 := by rw [NEXT.out]; rfl
                go_wp2_with fail
                go_ret
                exact ⟨by first | rfl | (rw [NX]; rfl), GW6.out⟩
      · have hwf : wordB s = false := by simpa using hwd
        have NX : chkI [] (itemsT bs cs) = 3 := by
          rw [← HE.out, HAT.out, HN.out]
          have h3 : lookC ((allN bs cs).take i) s = 3 := by unfold lookC; rw [hwf]; rfl
          rw [h3]; rfl
        rw [hwf]
        go_wp2_with fail
        go_ret
        exact ⟨by first | rfl | (rw [NX]; rfl), GW4.out⟩
    · have hif : i = bs.length + cs.length := by omega
      have NX : chkI [] (itemsT bs cs) = 0 := by
        rw [← HE.out, hif, ← items_len bs cs, List.drop_length]; rfl
      have i3 : ¬ (i : Int) < ((bs.length + cs.length : Nat) : Int) := by omega
      have i2 : ¬ (i : Int) < (bs.length : Int) + (cs.length : Int) := by omega
      go_wp2_with fail
      go_ret
      exact ⟨by first | rfl | (rw [NX]; rfl), GW.out⟩
end Go.Proofs.YtdoohocdaacnaaaDoor
