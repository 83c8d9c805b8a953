/- The closure that makes the names. -/
import Derived.Test.YtdoohocdaacnaaaDoorIndex
namespace Go.Proofs.YtdoohocdaacnaaaDoor
open Go.RowKit Go.Maps
set_option linter.unusedVariables false
set_option linter.unusedSimpArgs false

theorem Strs.cell {w : World} {X : Nat → Prop} {a : Option Addr} {cap : Nat} {l : List ByteArray} (h : Strs w X (.slice a l.length cap) l) {k : Nat} (hk : k < l.length) : ∃ g off, a = some ⟨g, off, none⟩ ∧ X g ∧ w.cell? ⟨g, off + k, none⟩ = some (.string l[k]) := by
  obtain ⟨_, a', cap', e, h1⟩ := h
  injection e with e1 _ e3
  subst e1
  subst e3
  rcases h1 with h1 | ⟨g, off, e1, h2, h3⟩
  · subst h1; exact absurd hk (Nat.not_lt_zero _)
  · exact ⟨g, off, e1, h2, h3 k hk⟩
theorem Cns.cell {w : World} {X : Nat → Prop} {a : Option Addr} {cap : Nat} {l : List Cn} (h : Cns w X (.slice a l.length cap) l) {k : Nat} (hk : k < l.length) : ∃ g off u, a = some ⟨g, off, none⟩ ∧ X g ∧ w.cell? ⟨g, off + k * 3, none⟩ = some (.string l[k].1) ∧ w.cell? ⟨g, off + k * 3 + 1, none⟩ = some u ∧ Ts w X u l[k].2.1 ∧ w.cell? ⟨g, off + k * 3 + 2, none⟩ = some (.int .i64 l[k].2.2) := by
  obtain ⟨_, a', cap', e, h1⟩ := h
  injection e with e1 _ e3
  subst e1
  subst e3
  rcases h1 with h1 | ⟨g, off, e1, h2, h3⟩
  · subst h1; exact absurd hk (Nat.not_lt_zero _)
  · obtain ⟨c0, ⟨u, c1, c2⟩, c3⟩ := h3 k hk
    exact ⟨g, off, u, e1, h2, c0, c1, c2, c3⟩

set_option maxRecDepth 100000 in
set_option maxHeartbeats 16000000 in
theorem all1_any (b L : Nat) (hLb : L ≤ b) (bs : List ByteArray) (cs : List Cn) (hbl : bs.length ≤ 1000) (hcl : cs.length ≤ 1000) (bv cv nm : Value) (pl : Nat) (w : World) (h : Ix w b bv cv 0 1 nm) (hp : w.cell? ⟨pl, 0, none⟩ = some (.pointer (some ⟨b, 0, none⟩))) (hpb : pl ≠ b)
    (hb : Strs w (fun x => L ≤ x ∧ x < b) bv bs) (hc : Cns w (fun x => L ≤ x ∧ x < b) cv cs) :
    Calls Tryd.prog 56 #[.pointer (some ⟨pl, 0, none⟩)] w fun e w' => e = .returned (.tuple #[]) ∧ ∃ nm', Ix w' b bv cv 0 1 nm' ∧ ∃ B m, nm' = .map (some B) ∧ w.heap.size ≤ B ∧ EM w' B m (eC bs cs cs.length) ∧ Chg (fun x => x = b) w w' := by
  obtain ⟨hbs, ba, bc, rfl, _⟩ := id hb
  obtain ⟨hcs, ca, cc, rfl, _⟩ := id hc
  have hmm := @run_makeMap Tryd.prog
  have lb := h.lt
  have lp := World.block_lt_of_cell? w _ hp
  have HB := hide hb
  have HC := hide hc
  have HX := hide h
  have HP := hide hp
  have M1 := hide (EM.made w)
  have f5 : w.frozen? ⟨b, 5, none⟩ = false := blk_free h 5
  have c5 : w.cell? ⟨b, 5, none⟩ = some nm := blk_cell h 5
  obtain ⟨W0, hW0⟩ : ∃ W0, (w.setCell ⟨b, 5, none⟩ (.map (some w.heap.size))).alloc (.map #[] 0) = W0 := ⟨_, rfl⟩
  obtain ⟨M, hM⟩ : ∃ M, w.heap.size = M := ⟨_, rfl⟩
  have C0 : Hid (Chg (fun x => x = b) w W0) := hide (by rw [← hW0]; exact (Chg.set w b 5 _).alloc _)
  have MM : Hid (EM W0 M 0 (eB bs 0)) := hide (by
    rw [← hW0, ← hM, ← World.setCell_alloc_past _ _ _ _ lb]
    exact (EM.made w).chg (Chg.set _ b 5 _) (fun e => by omega))
  have HX0 : W0.heap[b]? = some (.cells #[.slice ba bs.length bc, .slice ca cs.length cc, .int .u32 0, .int .i32 1, .int .u32 0, .map (some M)] 94) := by
    rw [← hW0, ← hM]; exact blk_alloc (blk_set h 5 _)
  have e0 := blk_cell HX0 0
  have e1 := blk_cell HX0 1
  have e5 := blk_cell HX0 5
  simp only [List.getElem?_toArray, List.getElem?_cons_zero, List.getElem?_cons_succ] at e0 e1 e5
  have hp0 := C0.out.cell hpb hp
  have HB0 := hide (hb.chg C0.out (fun x hx e => by omega))
  have HC0 := hide (hc.chg C0.out (fun x hx e => by omega))
  have HX := hide HX0
  have HM := hide hM
  have HP0 := hide hp0
  have lp' : pl < w.heap.size := lp
  have LB := hide (show b < M by omega)
  have LP := hide (show pl < M by omega)
  clear h hb hc HX0
  go_enter Tryd.func56, Tryd.ntmps56
  rw [hM] at hW0 lb lp
  go_wp2_with fail
  clear f5 c5 hW0 hp hmm
  have E5 := hide e5
  have E1 := hide e1
  clear e0 e1 e5 hp0
  go_loopw [15] (fun iv wr => ∃ k : Nat, k ≤ bs.length ∧ iv = .int .i64 k ∧ Hid (EM wr M k (eB bs k)) ∧ Hid (Chg (fun x => x = M) W0 wr)) (fun iv _ => bs.length - (intOf iv).toNat)
  case atStart => exact ⟨0, Nat.zero_le _, rfl, MM, hide (Chg.refl _ _)⟩
  case round =>
    clear MM
    obtain ⟨k, hk, rfl, hE, hC⟩ := hrel
    by_cases hlt : k < bs.length
    · have sb := HB0.out.chg hC.out (fun x hx e => by have := LB.out; omega)
      obtain ⟨g, off, rfl, hg, d0⟩ := sb.cell hlt
      have i1 : (0 : Int) ≤ (k : Int) := by omega
      have i2 : (k : Int) < (bs.length : Int) := by omega
      have p0 := hC.out.cell (show ¬ pl = M by have := LP.out; omega) HP0.out
      have p5 := hC.out.cell (show ¬ b = M by have := LB.out; omega) E5.out
      obtain ⟨w2, hr2, hE2, g2⟩ := hE.out.put (by omega) (hbs _ (List.getElem_mem hlt)) true (k : Int)
      have E3 : Hid (EM w2 M (k + 1) (eB bs (k + 1))) := hide (by
        have e : eB bs (k + 1) = fun j => if j = bs[k] then some (true, (k : Int)) else eB bs k j := by
          funext j
          have h1 : bs.getD k ByteArray.empty = bs[k] := by simp [List.getD, hlt]
          show (if j = bs.getD k ByteArray.empty then _ else _) = _
          rw [h1]
        rw [e]; exact hE2)
      have C3 := hide (hC.out.trans g2)
      clear hE2 g2 hE hC sb
      generalize bs[k] = nm at *
      go_wp2_with fail
      go_roundw
      case rel => exact ⟨k + 1, by omega, by go_num, E3, C3⟩
      case measure => simp [intOf]; omega
    · have hkl : k = bs.length := by omega
      subst hkl
      have p0 := hC.out.cell (show ¬ pl = M by have := LP.out; omega) HP0.out
      have p1 := hC.out.cell (show ¬ b = M by have := LB.out; omega) E1.out
      have MM : Hid (EM wr M (bs.length + 0) (eC bs cs 0)) := hE
      have CC := hC
      clear hE hC
      go_wp2_with fail
      clear p0 p1
      generalize wr = w2' at *
      go_loopw [34] (fun iv wr => ∃ k : Nat, k ≤ cs.length ∧ iv = .int .i64 k ∧ Hid (EM wr M (bs.length + k) (eC bs cs k)) ∧ Hid (Chg (fun x => x = M) W0 wr)) (fun iv _ => cs.length - (intOf iv).toNat)
      case atStart => exact ⟨0, Nat.zero_le _, rfl, MM, CC⟩
      case round =>
        clear MM CC
        obtain ⟨k, hk, rfl, hE, hC⟩ := hrel
        by_cases hlt : k < cs.length
        · have sc := HC0.out.chg hC.out (fun x hx e => by have := LB.out; omega)
          obtain ⟨g, off, u, rfl, hg, d0, d1, d2, d3⟩ := sc.cell hlt
          have i1 : (0 : Int) ≤ (k : Int) := by omega
          have i2 : (k : Int) < (cs.length : Int) := by omega
          obtain ⟨ua, uc, rfl, _⟩ := id d2
          have GA := al wr (.cells #[.string cs[k].1, .slice ua cs[k].2.1.len uc, .int .i64 cs[k].2.2] 32)
          have bA := blk_new wr (.cells #[.string cs[k].1, .slice ua cs[k].2.1.len uc, .int .i64 cs[k].2.2] 32)
          have p0 := GA.cell (fun h => h) (hC.out.cell (show ¬ pl = M by have := LP.out; omega) HP0.out)
          have p5 := GA.cell (fun h => h) (hC.out.cell (show ¬ b = M by have := LB.out; omega) E5.out)
          have y0 := blk_cell bA 0
          simp only [List.getElem?_toArray, List.getElem?_cons_zero, List.getElem?_cons_succ] at y0
          have lM := hide hE.out.lt
          have hE' := (hE.out.chg GA (fun h => h)).chg (Chg.refl (fun _ => False) _).drew (fun h => h)
          obtain ⟨w2, hr2, hE2, g2⟩ := hE'.put (by omega) (hcs _ (List.getElem_mem hlt)).1 false (k : Int)
          have E3 : Hid (EM w2 M (bs.length + (k + 1)) (eC bs cs (k + 1))) := hide (by
            have e : eC bs cs (k + 1) = fun j => if j = cs[k].1 then some (false, (k : Int)) else eC bs cs k j := by
              funext j
              have h1 : cs.getD k (ByteArray.empty, Fs.nil, 0) = cs[k] := by simp [List.getD, hlt]
              show (if j = (cs.getD k (ByteArray.empty, Fs.nil, 0)).1 then _ else _) = _
              rw [h1]
            rw [e]; exact hE2)
          have C3 : Hid (Chg (fun x => x = M) W0 w2) := hide ((hC.out.trans GA.drew.none).trans g2)
          clear hE2 g2 hE hC sc d2 GA bA hE'
          generalize cs[k] = c at *
          obtain ⟨nm, kk, kb⟩ := c
          dsimp only at d0 d1 d3 y0 hr2
          generalize hwA : wr.alloc (.cells #[.string nm, .slice ua kk.len uc, .int .i64 kb] 32) = wA at *
          go_wp2_with fail
          have p0' : wA.drew.cell? ⟨pl, 0, none⟩ = some (.pointer (some ⟨b, 0, none⟩)) := p0
          have p5' : wA.drew.cell? ⟨b, 5, none⟩ = some (.map (some M)) := p5
          have y0' : wA.drew.cell? ⟨wr.heap.size, 0, none⟩ = some (.string nm) := y0
          go_region_calls
          all_goals
            go_wp2_with fail
            go_roundw
            case rel => exact ⟨k + 1, by omega, by go_num, E3, C3⟩
            case measure => simp [intOf]; omega
        · have hkl : k = cs.length := by omega
          subst hkl
          have X3 := hide (hC.out.blk (show ¬ b = M by have := LB.out; omega) HX.out)
          have CF : Hid (Chg (fun x => x = b) w wr) := hide (by
            have h1 : Chg (fun x => x = b ∨ x = M) w wr := (C0.out.mono (fun x _ h => Or.inl h)).trans (hC.out.mono (fun x _ h => Or.inr h))
            exact h1.mono (fun x hx h => by have := HM.out; omega))
          clear hC
          go_wp2_with fail
          go_end0
          exact ⟨rfl, _, X3.out, M, _, rfl, by rw [HM.out]; exact Nat.le_refl _, hE.out, CF.out⟩
end Go.Proofs.YtdoohocdaacnaaaDoor
