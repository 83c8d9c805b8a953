/- Type, Name, Table. -/
import Derived.Test.YtdoohocdaacnaaaDoorAt
namespace Go.Proofs.YtdoohocdaacnaaaDoor
open Go.RowKit Go.Maps
set_option linter.unusedVariables false
set_option linter.unusedSimpArgs false

theorem atV_size (o : Option (List Cn)) (i : Int) (h : ∀ cs, o = some cs → ∀ c ∈ cs, c.1.size ≤ maxLen ∧ c.2.1.size ≤ 10000) : (atV o i).1.1.size ≤ maxLen ∧ (atV o i).1.2.1.size ≤ 10000 := by
  unfold atV
  cases o with
  | none => exact ⟨Nat.zero_le _, Nat.zero_le _⟩
  | some cs =>
    dsimp only
    split
    · rename_i hi
      have hk : i.toNat < cs.length := by omega
      have e : cs.getD i.toNat cn0 = cs[i.toNat] := by simp [List.getD, hk]
      dsimp only
      rw [e]
      exact h cs rfl _ (List.getElem_mem hk)
    · exact ⟨Nat.zero_le _, Nat.zero_le _⟩
theorem Xn.sizes {w : World} {L b : Nat} {ip : Value} {o : Option (List ByteArray × List Cn)} (h : Xn w L b ip o) : ∀ cs, o.map (·.2) = some cs → ∀ c ∈ cs, c.1.size ≤ maxLen ∧ c.2.1.size ≤ 10000 := by
  cases o with
  | none => intro cs e; cases e
  | some p =>
    intro cs e
    obtain ⟨_, ⟨_, _, _, _, _, _, _, h3, _⟩, _⟩ := h
    injection e with e
    subst e
    exact h3.1
theorem Xn.lt {w : World} {L b : Nat} {ip : Value} {o : Option (List ByteArray × List Cn)} (h : Xn w L b ip o) (hz : o = none → b ≤ w.heap.size) : b ≤ w.heap.size := by
  cases o with
  | none => exact hz rfl
  | some p => exact Nat.le_of_lt h.2.1.lt

set_option maxRecDepth 100000 in
set_option maxHeartbeats 4000000 in
theorem name_any (L b : Nat) (ip : Value) (o : Option (List ByteArray × List Cn)) (i : Int) (w : World) (h : Xn w L b ip o) :
    Calls Tryd.prog 25 #[ip, .int .i64 i] w fun e w' => e = .returned (.tuple #[.string (atV (o.map (·.2)) i).1.1, .int .i64 (atV (o.map (·.2)) i).2]) ∧ Chg (fun _ => False) w w' := by
  have at1 := hide (at_any L b ip o i w h)
  unfold AtPost at at1
  clear h
  generalize o.map (·.2) = oc at *
  generalize atV oc i = r at *
  obtain ⟨⟨nm, kk, kb⟩, c⟩ := r
  dsimp only at *
  go_enter Tryd.func25, Tryd.ntmps25
  go_wp2_with fail
  refine at1.out.mono ?_
  rintro e w2 ⟨⟨u, rfl, hu⟩, hC⟩
  obtain ⟨ua, uc, rfl, _⟩ := id hu
  have F := hide (hC.alloc (.cells #[.string nm, .slice ua kk.len uc, .int .i64 kb] 32))
  clear hu hC
  go_wp2_with fail
  go_ret2
  exact ⟨rfl, F.out⟩

set_option maxRecDepth 100000 in
set_option maxHeartbeats 8000000 in
theorem type_any (L b : Nat) (ip : Value) (o : Option (List ByteArray × List Cn)) (i : Int) (w : World) (hb : b ≤ w.heap.size) (h : Xn w L b ip o) :
    Calls Tryd.prog 24 #[ip, .int .i64 i] w fun e w' => (∃ v', e = .returned (.tuple #[.agg #[v', .int .i64 (atV (o.map (·.2)) i).1.2.2], .int .i64 (atV (o.map (·.2)) i).2]) ∧ Ts w' (fun x => w.heap.size ≤ x ∧ x < w'.heap.size) v' (atV (o.map (·.2)) i).1.2.1) ∧ Chg (fun _ => False) w w' := by
  have g0 := al w (.cells #[.slice none 0 0, .int .i64 0] 30)
  have b0 := blk_new w (.cells #[.slice none 0 0, .int .i64 0] 30)
  have at1 := hide (at_any L b ip o i _ (h.chg g0 (fun _ _ h => h)))
  unfold AtPost at at1
  have sz := hide (atV_size (o.map (·.2)) i h.sizes).2
  have HB := hide hb
  have HS := hide (al_size w (.cells #[.slice none 0 0, .int .i64 0] 30))
  have G0 := hide g0
  have B0 := hide b0
  clear h b0 hb g0
  generalize o.map (·.2) = oc at *
  generalize atV oc i = r at *
  obtain ⟨⟨nm, kk, kb⟩, c⟩ := r
  dsimp only at *
  go_enter Tryd.func24, Tryd.ntmps24
  go_wp2_with fail
  generalize w.alloc (.cells #[.slice none 0 0, .int .i64 0] 30) = w1 at *
  refine at1.out.mono ?_
  rintro e w2 ⟨⟨u, rfl, hu⟩, hC⟩
  obtain ⟨ua, uc, rfl, _⟩ := id hu
  have GA := al w2 (.cells #[.string nm, .slice ua kk.len uc, .int .i64 kb] 32)
  have hC3 := hC.trans GA
  have hu3 := hu.chg GA (fun _ _ h => h)
  have ar := hide (arrow_any kk .nil (by have := sz.out; omega) (by decide) (.slice ua kk.len uc) (.slice none 0 0) kb (fun x => L ≤ x ∧ x < b) _ (fun x hx => by have := hx.2; have := HB.out; have := G0.out.size; have := hC3.size; omega) hu3 (Ts.nil _ _))
  have G3 := hide (G0.out.trans hC3)
  have B3 := hide (hC3.blk (fun h => h) B0.out)
  have S3 := hide hC3.size
  clear hu hC GA hC3 hu3
  go_wp2_with fail
  generalize (w2.alloc (.cells #[.string nm, .slice ua kk.len uc, .int .i64 kb] 32)) = w3 at *
  refine ar.out.mono ?_
  rintro e w4 ⟨⟨v', rfl, hv'⟩, g4⟩
  rw [Fs.nil_app] at hv'
  have B4 := g4.blk (fun h => h) B3.out
  obtain ⟨va, vc, rfl, _⟩ := id hv'
  obtain ⟨O, hO⟩ : ∃ O, w.heap.size = O := ⟨_, rfl⟩
  rw [hO] at B4
  have T1 := blk_set B4 0 (.slice va kk.len vc)
  have T2 := blk_set T1 1 (.int .i64 kb)
  have x0 := blk_cell B4 0
  have x1 := blk_cell B4 1
  have y0 := blk_free B4 0
  have y1 := blk_free B4 1
  have z0 : ((w4.setCell ⟨O, 0, none⟩ (.slice va kk.len vc)).setCell ⟨O, 1, none⟩ (.int .i64 kb)).cell? ⟨O, 0, none⟩ = some (.slice va kk.len vc) := blk_cell T2 0
  have z1 : ((w4.setCell ⟨O, 0, none⟩ (.slice va kk.len vc)).setCell ⟨O, 1, none⟩ (.int .i64 kb)).cell? ⟨O, 1, none⟩ = some (.int .i64 kb) := blk_cell T2 1
  simp only [List.getElem?_toArray, List.getElem?_cons_zero, List.getElem?_cons_succ] at x0 x1
  have SS := (Chg.set w4 O 0 (.slice va kk.len vc)).trans (Chg.set _ O 1 (.int .i64 kb))
  have F : Hid (Ts ((w4.setCell ⟨O, 0, none⟩ (.slice va kk.len vc)).setCell ⟨O, 1, none⟩ (.int .i64 kb)) (fun x => w.heap.size ≤ x ∧ x < ((w4.setCell ⟨O, 0, none⟩ (.slice va kk.len vc)).setCell ⟨O, 1, none⟩ (.int .i64 kb)).heap.size) (.slice va kk.len vc) kk ∧ Chg (fun _ => False) w ((w4.setCell ⟨O, 0, none⟩ (.slice va kk.len vc)).setCell ⟨O, 1, none⟩ (.int .i64 kb))) := hide
    ⟨(hv'.chg SS (fun x hx e => by have := hx.1; have := S3.out; have := HS.out; omega)).up (fun x hx => ⟨by have := hx.1; have := S3.out; have := HS.out; omega, Nat.lt_of_lt_of_le hx.2 SS.size⟩),
      by
        have h1 : Chg (fun x => x = O) w _ := (G3.out.trans g4).none.trans SS
        exact h1.mono (fun x hx e => by omega)⟩
  clear B4 T1 T2 SS hv' g4
  go_wp2_with fail
  generalize ((w4.setCell ⟨O, 0, none⟩ (.slice va kk.len vc)).setCell ⟨O, 1, none⟩ (.int .i64 kb)) = w5 at *
  refine bodyPost_ret (fn := Tryd.f24) (v := .tuple #[.agg #[.slice va kk.len vc, .int .i64 kb], .int .i64 c]) (by simp [results, Tryd.results24, go_sem, z0, z1]) rfl ?_
  exact ⟨⟨_, rfl, F.out.1⟩, F.out.2⟩

set_option maxRecDepth 100000 in
set_option maxHeartbeats 8000000 in
theorem table_nil (w : World) : Calls Tryd.prog 19 #[.pointer none] w fun e w' => e = .returned (.agg #[.slice none 0 0, .slice none 0 0]) ∧ Chg (fun _ => False) w w' := by
  have F := hide (al w (.cells #[.slice none 0 0, .slice none 0 0] 26))
  go_enter Tryd.func19, Tryd.ntmps19
  go_wp2_with fail
  refine bodyPost_ret (fn := Tryd.f19) (v := .agg #[.slice none 0 0, .slice none 0 0]) (by simp [results, Tryd.results19, go_sem]) rfl ?_
  exact ⟨rfl, F.out⟩
end Go.Proofs.YtdoohocdaacnaaaDoor
