/- at, Type, Name, Table. -/
import Derived.Test.YtdoohocdaacnaaaDoorFind
namespace Go.Proofs.YtdoohocdaacnaaaDoor
open Go.RowKit Go.Maps
set_option linter.unusedVariables false
set_option linter.unusedSimpArgs false

abbrev cn0 : Cn := (⟨#[]⟩, Fs.nil, 0)
/-- a constant by its number, and what is wrong -/
def atV (o : Option (List Cn)) (i : Int) : Cn × Int :=
  match o with
  | none => (cn0, 13)
  | some cs => if 0 ≤ i ∧ i < cs.length then (cs.getD i.toNat cn0, 0) else (cn0, 10)
/-- an index or nil -/
def Xn (w : World) (L b : Nat) (ip : Value) (o : Option (List ByteArray × List Cn)) : Prop :=
  match o with
  | none => ip = .pointer none
  | some (bs, cs) => ip = .pointer (some ⟨b, 0, none⟩) ∧ Xs w L b bs cs ∧ bs.length ≤ 1000 ∧ cs.length ≤ 1000
theorem Xn.chg {w w' : World} {L b : Nat} {ip : Value} {o : Option (List ByteArray × List Cn)} (h : Xn w L b ip o) {S : Nat → Prop} (g : Chg S w w') (hn : ∀ x, L ≤ x → ¬ S x) : Xn w' L b ip o := by
  cases o with
  | none => exact h
  | some p => exact ⟨h.1, h.2.1.chg g hn, h.2.2⟩
def AtPost (o : Option (List Cn)) (i : Int) (X : Nat → Prop) (w : World) (e : Ending) (w' : World) : Prop :=
  (∃ u, e = .returned (.tuple #[.agg #[.string (atV o i).1.1, u, .int .i64 (atV o i).1.2.2], .int .i64 (atV o i).2]) ∧ Ts w' X u (atV o i).1.2.1) ∧ Chg (fun _ => False) w w'

theorem Ts.nil' (w : World) (X : Nat → Prop) : Ts w X (.slice none 0 0) Fs.nil := Ts.nil w X

set_option maxRecDepth 100000 in
set_option maxHeartbeats 4000000 in
theorem at_any (L b : Nat) (ip : Value) (o : Option (List ByteArray × List Cn)) (i : Int) (w : World) (h : Xn w L b ip o) :
    Calls Tryd.prog 43 #[ip, .int .i64 i] w (AtPost (o.map (·.2)) i (fun x => L ≤ x ∧ x < b) w) := by
  cases o with
  | none =>
    have h : ip = .pointer none := h
    subst h
    have G0 := hide (al w (.cells #[.string ⟨#[]⟩, .slice none 0 0, .int .i64 0] 32))
    have b0 := blk_new w (.cells #[.string ⟨#[]⟩, .slice none 0 0, .int .i64 0] 32)
    have z0 := blk_cell b0 0
    have z1 := blk_cell b0 1
    have z2 := blk_cell b0 2
    simp only [List.getElem?_toArray, List.getElem?_cons_zero, List.getElem?_cons_succ] at z0 z1 z2
    go_enter Tryd.func43, Tryd.ntmps43
    go_wp2_with fail
    refine bodyPost_ret (fn := Tryd.f43) (v := .tuple #[.agg #[.string ⟨#[]⟩, .slice none 0 0, .int .i64 0], .int .i64 13]) (by simp [results, Tryd.results43, go_sem, z0, z1, z2]) rfl ?_
    exact ⟨⟨_, rfl, Ts.nil _ _⟩, G0.out⟩
  | some p =>
    obtain ⟨bs, cs⟩ := p
    obtain ⟨rfl, hx, hbl, hcl⟩ := h
    obtain ⟨hLb, bv, cv, d, nm, h1, h2, h3, h4⟩ := hx
    obtain ⟨_, ca, cc, rfl, _⟩ := id h3
    by_cases hi : 0 ≤ i ∧ i < cs.length
    · obtain ⟨k, rfl⟩ := Int.eq_ofNat_of_zero_le hi.1
      have hk : k < cs.length := by omega
      obtain ⟨g, off, u, rfl, hg, d0, d1, d2, d3⟩ := h3.cell hk
      have hv : atV (some cs) (k : Int) = (cs[k], 0) := by
        show (if (0 : Int) ≤ (k : Int) ∧ (k : Int) < cs.length then (cs.getD (k : Int).toNat cn0, (0 : Int)) else _) = _
        rw [if_pos hi]; simp [List.getD, hk]
      have HV := hide hv
      have i0 : decide ((k : Int) < 0) = false := by simp
      have i1 : decide ((k : Int) ≥ (cs.length : Int)) = false := by simp; omega
      have i2 : (0 : Int) ≤ (k : Int) := by omega
      have i3 : (k : Int) < (cs.length : Int) := by omega
      have GA := al w (.cells #[.string ⟨#[]⟩, .slice none 0 0, .int .i64 0] 32)
      have c1 := (blk_cell (h1.chg GA (fun h => h)) 1)
      simp only [List.getElem?_toArray, List.getElem?_cons_zero, List.getElem?_cons_succ] at c1
      have d0' := GA.cell (fun h => h) d0
      have d1' := GA.cell (fun h => h) d1
      have d3' := GA.cell (fun h => h) d3
      have c1w := blk_cell h1 1
      simp only [List.getElem?_toArray, List.getElem?_cons_zero, List.getElem?_cons_succ] at c1w
      generalize cs[k] = c at *
      obtain ⟨nm', kk, kb⟩ := c
      dsimp only at d0 d1 d2 d3 d0' d1' d3'
      obtain ⟨ua, uc, rfl, _⟩ := id d2
      have b0 := blk_new w (.cells #[.string nm', .slice ua kk.len uc, .int .i64 kb] 32)
      have z0 := blk_cell b0 0
      have z1 := blk_cell b0 1
      have z2 := blk_cell b0 2
      simp only [List.getElem?_toArray, List.getElem?_cons_zero, List.getElem?_cons_succ] at z0 z1 z2
      have G0 := hide (al w (.cells #[.string nm', .slice ua kk.len uc, .int .i64 kb] 32))
      have D2 := hide (d2.chg G0.out (fun _ _ h => h))
      clear h1 h2 h3 h4 hi hv GA b0 d2
      go_enter Tryd.func43, Tryd.ntmps43
      go_wp2_with fail
      refine bodyPost_ret (fn := Tryd.f43) (v := .tuple #[.agg #[.string nm', .slice ua kk.len uc, .int .i64 kb], .int .i64 0]) (by simp [results, Tryd.results43, go_sem, z0, z1, z2]) rfl ?_
      exact ⟨⟨_, by rw [HV.out], by rw [HV.out]; exact D2.out⟩, G0.out⟩
    · have hv : atV (some cs) i = (cn0, 10) := by
        show (if (0 : Int) ≤ i ∧ i < cs.length then _ else _) = _
        rw [if_neg hi]
      have HV := hide hv
      have GA := al w (.cells #[.string ⟨#[]⟩, .slice none 0 0, .int .i64 0] 32)
      have c1 := (blk_cell (h1.chg GA (fun h => h)) 1)
      have b0 := blk_new w (.cells #[.string ⟨#[]⟩, .slice none 0 0, .int .i64 0] 32)
      have z0 := blk_cell b0 0
      have z1 := blk_cell b0 1
      have z2 := blk_cell b0 2
      simp only [List.getElem?_toArray, List.getElem?_cons_zero, List.getElem?_cons_succ] at z0 z1 z2 c1
      have G0 := hide GA
      clear h1 h2 h3 h4 hv GA b0
      by_cases hn : i < 0
      · have i0 : decide (i < 0) = true := by simp; omega
        clear hi
        go_enter Tryd.func43, Tryd.ntmps43
        go_wp2_with fail
        refine bodyPost_ret (fn := Tryd.f43) (v := .tuple #[.agg #[.string ⟨#[]⟩, .slice none 0 0, .int .i64 0], .int .i64 10]) (by simp [results, Tryd.results43, go_sem, z0, z1, z2]) rfl ?_
        exact ⟨⟨_, by rw [HV.out], by rw [HV.out]; exact Ts.nil _ _⟩, G0.out⟩
      · have i0 : decide (i < 0) = false := by simp; omega
        have i1 : (cs.length : Int) ≤ i := by omega
        clear hi
        go_enter Tryd.func43, Tryd.ntmps43
        go_wp2_with fail
        refine bodyPost_ret (fn := Tryd.f43) (v := .tuple #[.agg #[.string ⟨#[]⟩, .slice none 0 0, .int .i64 0], .int .i64 10]) (by simp [results, Tryd.results43, go_sem, z0, z1, z2]) rfl ?_
        exact ⟨⟨_, by rw [HV.out], by rw [HV.out]; exact Ts.nil _ _⟩, G0.out⟩
end Go.Proofs.YtdoohocdaacnaaaDoor
