/- The walk of ParseOnes: a term, a type. -/
import Derived.Test.YtboeeaekhijboaaKnown
import Derived.Test.YtboeeaekhijboaaPone
import Derived.Test.YtboeeaekhijboaaPslim
import Derived.Test.YtboeeaekhijboaaPlike
import Derived.Test.YtboeeaekhijboaaSame
import Derived.Deep.CutBlock
namespace Go.Proofs.Ytboeeaekhijboaa
open Go.RowKit
set_option linter.unusedVariables false
set_option linter.unusedSimpArgs false

set_option maxRecDepth 100000 in
set_option maxHeartbeats 32000000 in
theorem ones_walk (s0 : ByteArray) (hs0 : s0.size ≤ 9223372036854775807) (w : World) :
    Calls Try.prog 5 #[.string s0] w fun e w' => e = .returned (.bool true) ∧ Chg (fun _ => False) w w' := by
  have hz : (s0.extract 0 (min (s0.size : Int) 1500).toNat).size ≤ 1500 := by simp; omega
  have i0 : (0 : Int) ≤ min (s0.size : Int) 1500 := by omega
  have i1 : min (s0.size : Int) 1500 ≤ (s0.size : Int) := by omega
  go_enter Try.func5, Try.ntmps5
  go_wp2_with fail
  generalize s0.extract 0 (min (s0.size : Int) 1500).toNat = S at *
  clear i0 i1
  have SZ := hide hz
  have TT := hide (fun w => term14_any S (by have := SZ.out; omega) w)
  have OT := hide (fun w => oneT_any S (by have := SZ.out; omega) w)
  have TY := hide (fun w => type16_any S (by have := SZ.out; omega) w)
  have OY := hide (fun w => oneY_any S (by have := SZ.out; omega) w)
  have KT := hide (resS_ok (s := S) (fun q h => termS_ok (lexT S) S 60 0 q h))
  have KY := hide (resS_ok (s := S) (fun q h => typS_ok (lexT S) S 60 0 q h))
  clear hz
  generalize resS zN S (termS (lexT S) S 60 0) = RT at *
  generalize resS zN S (typS (lexT S) S 60 0) = RY at *
  obtain ⟨⟨t0, t1, t2, t3⟩, ⟨tn0, tn1, tn2, tn3⟩⟩ := RT
  obtain ⟨⟨y0, y1, y2, y3⟩, ⟨yn0, yn1, yn2, yn3⟩⟩ := RY
  have evt : f4V (t0, t1, t2, t3) = .agg #[.int .i64 t0, .int .i64 t1, .int .i64 t2, .string t3] := rfl
  have evy : f4V (y0, y1, y2, y3) = .agg #[.int .i64 y0, .int .i64 y1, .int .i64 y2, .string y3] := rfl
  dsimp only at TT OT TY OY KT KY
  rw [evt] at TT OT
  rw [evy] at TY OY
  clear evt evy
  go_wp2_with fail
  refine (TT.out _).mono ?_
  rintro e wa1 ⟨⟨u, rfl, hu⟩, g⟩
  obtain ⟨a1, c1, rfl, hu⟩ := hu
  dsimp only [Nd.kind, Nd.word, Nd.at, Nd.kids] at hu ⊢
  have GA := al wa1 (.cells #[.int .i64 tn0, .string tn1, .int .i64 tn2, .slice a1 tn3.len c1] 51)
  have BA := blk_new wa1 (.cells #[.int .i64 tn0, .string tn1, .int .i64 tn2, .slice a1 tn3.len c1] 51)
  have GB := al (wa1.alloc (.cells #[.int .i64 tn0, .string tn1, .int .i64 tn2, .slice a1 tn3.len c1] 51)) (.cells #[.int .i64 t0, .int .i64 t1, .int .i64 t2, .string t3] 27)
  have BB := blk_new (wa1.alloc (.cells #[.int .i64 tn0, .string tn1, .int .i64 tn2, .slice a1 tn3.len c1] 51)) (.cells #[.int .i64 t0, .int .i64 t1, .int .i64 t2, .string t3] 27)
  have sz := al_sz wa1 (.cells #[.int .i64 tn0, .string tn1, .int .i64 tn2, .slice a1 tn3.len c1] 51)
  rw [sz] at BB
  obtain ⟨P1, hP⟩ : ∃ P, wa1.heap.size = P := ⟨_, rfl⟩
  obtain ⟨Q1, hQ⟩ : ∃ Q, P1 + 1 = Q := ⟨_, rfl⟩
  rw [hP] at BA BB
  rw [hQ] at BB
  have HP1 := hide hP
  have HQ1 := hide hQ
  have GG := g.trans (GA.trans GB)
  have GW := GA.trans GB
  have BP1 := hide (GB.blk BA)
  have BQ1 := hide BB
  have NT1 := hide ((hu.chg GW (fun _ _ h => h)).up (Y := fun x => x < ((wa1.alloc (.cells #[.int .i64 tn0, .string tn1, .int .i64 tn2, .slice a1 tn3.len c1] 51)).alloc (.cells #[.int .i64 t0, .int .i64 t1, .int .i64 t2, .string t3] 27)).heap.size) (fun x hx => Nat.lt_of_lt_of_le hx.2 GW.size))
  have GM1 := hide GG
  clear hu g GA BA GB BB sz hP hQ GG GW TT
  go_wp2_with fail
  generalize ((wa1.alloc (.cells #[.int .i64 tn0, .string tn1, .int .i64 tn2, .slice a1 tn3.len c1] 51)).alloc (.cells #[.int .i64 t0, .int .i64 t1, .int .i64 t2, .string t3] 27)) = wb1 at *
  rw [HP1.out, HQ1.out]
  refine (OT.out _).mono ?_
  rintro e wa2 ⟨⟨u, rfl, hu⟩, g⟩
  obtain ⟨a2, c2, rfl, hu⟩ := hu
  dsimp only [Nd.kind, Nd.word, Nd.at, Nd.kids] at hu ⊢
  have GA := al wa2 (.cells #[.int .i64 tn0, .string tn1, .int .i64 tn2, .slice a2 tn3.len c2] 55)
  have BA := blk_new wa2 (.cells #[.int .i64 tn0, .string tn1, .int .i64 tn2, .slice a2 tn3.len c2] 55)
  have GB := al (wa2.alloc (.cells #[.int .i64 tn0, .string tn1, .int .i64 tn2, .slice a2 tn3.len c2] 55)) (.cells #[.int .i64 t0, .int .i64 t1, .int .i64 t2, .string t3] 33)
  have BB := blk_new (wa2.alloc (.cells #[.int .i64 tn0, .string tn1, .int .i64 tn2, .slice a2 tn3.len c2] 55)) (.cells #[.int .i64 t0, .int .i64 t1, .int .i64 t2, .string t3] 33)
  have sz := al_sz wa2 (.cells #[.int .i64 tn0, .string tn1, .int .i64 tn2, .slice a2 tn3.len c2] 55)
  rw [sz] at BB
  obtain ⟨P2, hP⟩ : ∃ P, wa2.heap.size = P := ⟨_, rfl⟩
  obtain ⟨Q2, hQ⟩ : ∃ Q, P2 + 1 = Q := ⟨_, rfl⟩
  rw [hP] at BA BB
  rw [hQ] at BB
  have HP2 := hide hP
  have HQ2 := hide hQ
  have GG := g.trans (GA.trans GB)
  have GW := GA.trans GB
  have BP1 := hide (GG.blk BP1.out)
  have BQ1 := hide (GG.blk BQ1.out)
  have NT1 := hide ((NT1.out.chg GG (fun _ _ h => h)).up (Y := fun x => x < ((wa2.alloc (.cells #[.int .i64 tn0, .string tn1, .int .i64 tn2, .slice a2 tn3.len c2] 55)).alloc (.cells #[.int .i64 t0, .int .i64 t1, .int .i64 t2, .string t3] 33)).heap.size) (fun x hx => Nat.lt_of_lt_of_le hx GG.size))
  have BP2 := hide (GB.blk BA)
  have BQ2 := hide BB
  have NT2 := hide ((hu.chg GW (fun _ _ h => h)).up (Y := fun x => x < ((wa2.alloc (.cells #[.int .i64 tn0, .string tn1, .int .i64 tn2, .slice a2 tn3.len c2] 55)).alloc (.cells #[.int .i64 t0, .int .i64 t1, .int .i64 t2, .string t3] 33)).heap.size) (fun x hx => Nat.lt_of_lt_of_le hx.2 GW.size))
  have GM2 := hide (GM1.out.trans GG)
  clear hu g GA BA GB BB sz hP hQ GG GW OT
  go_wp2_with fail
  generalize ((wa2.alloc (.cells #[.int .i64 tn0, .string tn1, .int .i64 tn2, .slice a2 tn3.len c2] 55)).alloc (.cells #[.int .i64 t0, .int .i64 t1, .int .i64 t2, .string t3] 33)) = wb2 at *
  rw [HP2.out, HQ2.out]
  refine (TY.out _).mono ?_
  rintro e wa3 ⟨⟨u, rfl, hu⟩, g⟩
  obtain ⟨a3, c3, rfl, hu⟩ := hu
  dsimp only [Nd.kind, Nd.word, Nd.at, Nd.kids] at hu ⊢
  have GA := al wa3 (.cells #[.int .i64 yn0, .string yn1, .int .i64 yn2, .slice a3 yn3.len c3] 51)
  have BA := blk_new wa3 (.cells #[.int .i64 yn0, .string yn1, .int .i64 yn2, .slice a3 yn3.len c3] 51)
  have GB := al (wa3.alloc (.cells #[.int .i64 yn0, .string yn1, .int .i64 yn2, .slice a3 yn3.len c3] 51)) (.cells #[.int .i64 y0, .int .i64 y1, .int .i64 y2, .string y3] 27)
  have BB := blk_new (wa3.alloc (.cells #[.int .i64 yn0, .string yn1, .int .i64 yn2, .slice a3 yn3.len c3] 51)) (.cells #[.int .i64 y0, .int .i64 y1, .int .i64 y2, .string y3] 27)
  have sz := al_sz wa3 (.cells #[.int .i64 yn0, .string yn1, .int .i64 yn2, .slice a3 yn3.len c3] 51)
  rw [sz] at BB
  obtain ⟨P3, hP⟩ : ∃ P, wa3.heap.size = P := ⟨_, rfl⟩
  obtain ⟨Q3, hQ⟩ : ∃ Q, P3 + 1 = Q := ⟨_, rfl⟩
  rw [hP] at BA BB
  rw [hQ] at BB
  have HP3 := hide hP
  have HQ3 := hide hQ
  have GG := g.trans (GA.trans GB)
  have GW := GA.trans GB
  have BP1 := hide (GG.blk BP1.out)
  have BQ1 := hide (GG.blk BQ1.out)
  have NT1 := hide ((NT1.out.chg GG (fun _ _ h => h)).up (Y := fun x => x < ((wa3.alloc (.cells #[.int .i64 yn0, .string yn1, .int .i64 yn2, .slice a3 yn3.len c3] 51)).alloc (.cells #[.int .i64 y0, .int .i64 y1, .int .i64 y2, .string y3] 27)).heap.size) (fun x hx => Nat.lt_of_lt_of_le hx GG.size))
  have BP2 := hide (GG.blk BP2.out)
  have BQ2 := hide (GG.blk BQ2.out)
  have NT2 := hide ((NT2.out.chg GG (fun _ _ h => h)).up (Y := fun x => x < ((wa3.alloc (.cells #[.int .i64 yn0, .string yn1, .int .i64 yn2, .slice a3 yn3.len c3] 51)).alloc (.cells #[.int .i64 y0, .int .i64 y1, .int .i64 y2, .string y3] 27)).heap.size) (fun x hx => Nat.lt_of_lt_of_le hx GG.size))
  have BP3 := hide (GB.blk BA)
  have BQ3 := hide BB
  have NT3 := hide ((hu.chg GW (fun _ _ h => h)).up (Y := fun x => x < ((wa3.alloc (.cells #[.int .i64 yn0, .string yn1, .int .i64 yn2, .slice a3 yn3.len c3] 51)).alloc (.cells #[.int .i64 y0, .int .i64 y1, .int .i64 y2, .string y3] 27)).heap.size) (fun x hx => Nat.lt_of_lt_of_le hx.2 GW.size))
  have GM3 := hide (GM2.out.trans GG)
  clear hu g GA BA GB BB sz hP hQ GG GW TY
  go_wp2_with fail
  generalize ((wa3.alloc (.cells #[.int .i64 yn0, .string yn1, .int .i64 yn2, .slice a3 yn3.len c3] 51)).alloc (.cells #[.int .i64 y0, .int .i64 y1, .int .i64 y2, .string y3] 27)) = wb3 at *
  rw [HP3.out, HQ3.out]
  refine (OY.out _).mono ?_
  rintro e wa4 ⟨⟨u, rfl, hu⟩, g⟩
  obtain ⟨a4, c4, rfl, hu⟩ := hu
  dsimp only [Nd.kind, Nd.word, Nd.at, Nd.kids] at hu ⊢
  have GA := al wa4 (.cells #[.int .i64 yn0, .string yn1, .int .i64 yn2, .slice a4 yn3.len c4] 55)
  have BA := blk_new wa4 (.cells #[.int .i64 yn0, .string yn1, .int .i64 yn2, .slice a4 yn3.len c4] 55)
  have GB := al (wa4.alloc (.cells #[.int .i64 yn0, .string yn1, .int .i64 yn2, .slice a4 yn3.len c4] 55)) (.cells #[.int .i64 y0, .int .i64 y1, .int .i64 y2, .string y3] 33)
  have BB := blk_new (wa4.alloc (.cells #[.int .i64 yn0, .string yn1, .int .i64 yn2, .slice a4 yn3.len c4] 55)) (.cells #[.int .i64 y0, .int .i64 y1, .int .i64 y2, .string y3] 33)
  have sz := al_sz wa4 (.cells #[.int .i64 yn0, .string yn1, .int .i64 yn2, .slice a4 yn3.len c4] 55)
  rw [sz] at BB
  obtain ⟨P4, hP⟩ : ∃ P, wa4.heap.size = P := ⟨_, rfl⟩
  obtain ⟨Q4, hQ⟩ : ∃ Q, P4 + 1 = Q := ⟨_, rfl⟩
  rw [hP] at BA BB
  rw [hQ] at BB
  have HP4 := hide hP
  have HQ4 := hide hQ
  have GG := g.trans (GA.trans GB)
  have GW := GA.trans GB
  have BP1 := hide (GG.blk BP1.out)
  have BQ1 := hide (GG.blk BQ1.out)
  have NT1 := hide ((NT1.out.chg GG (fun _ _ h => h)).up (Y := fun x => x < ((wa4.alloc (.cells #[.int .i64 yn0, .string yn1, .int .i64 yn2, .slice a4 yn3.len c4] 55)).alloc (.cells #[.int .i64 y0, .int .i64 y1, .int .i64 y2, .string y3] 33)).heap.size) (fun x hx => Nat.lt_of_lt_of_le hx GG.size))
  have BP2 := hide (GG.blk BP2.out)
  have BQ2 := hide (GG.blk BQ2.out)
  have NT2 := hide ((NT2.out.chg GG (fun _ _ h => h)).up (Y := fun x => x < ((wa4.alloc (.cells #[.int .i64 yn0, .string yn1, .int .i64 yn2, .slice a4 yn3.len c4] 55)).alloc (.cells #[.int .i64 y0, .int .i64 y1, .int .i64 y2, .string y3] 33)).heap.size) (fun x hx => Nat.lt_of_lt_of_le hx GG.size))
  have BP3 := hide (GG.blk BP3.out)
  have BQ3 := hide (GG.blk BQ3.out)
  have NT3 := hide ((NT3.out.chg GG (fun _ _ h => h)).up (Y := fun x => x < ((wa4.alloc (.cells #[.int .i64 yn0, .string yn1, .int .i64 yn2, .slice a4 yn3.len c4] 55)).alloc (.cells #[.int .i64 y0, .int .i64 y1, .int .i64 y2, .string y3] 33)).heap.size) (fun x hx => Nat.lt_of_lt_of_le hx GG.size))
  have BP4 := hide (GB.blk BA)
  have BQ4 := hide BB
  have NT4 := hide ((hu.chg GW (fun _ _ h => h)).up (Y := fun x => x < ((wa4.alloc (.cells #[.int .i64 yn0, .string yn1, .int .i64 yn2, .slice a4 yn3.len c4] 55)).alloc (.cells #[.int .i64 y0, .int .i64 y1, .int .i64 y2, .string y3] 33)).heap.size) (fun x hx => Nat.lt_of_lt_of_le hx.2 GW.size))
  have GM4 := hide (GM3.out.trans GG)
  clear hu g GA BA GB BB sz hP hQ GG GW OY
  go_wp2_with fail
  generalize ((wa4.alloc (.cells #[.int .i64 yn0, .string yn1, .int .i64 yn2, .slice a4 yn3.len c4] 55)).alloc (.cells #[.int .i64 y0, .int .i64 y1, .int .i64 y2, .string y3] 33)) = wb4 at *
  rw [HP4.out, HQ4.out]
  have p10 := blk_cell BP1.out 0
  have q10 := blk_cell BQ1.out 0
  have p11 := blk_cell BP1.out 1
  have q11 := blk_cell BQ1.out 1
  have p12 := blk_cell BP1.out 2
  have q12 := blk_cell BQ1.out 2
  have p13 := blk_cell BP1.out 3
  have q13 := blk_cell BQ1.out 3
  have p20 := blk_cell BP2.out 0
  have q20 := blk_cell BQ2.out 0
  have p21 := blk_cell BP2.out 1
  have q21 := blk_cell BQ2.out 1
  have p22 := blk_cell BP2.out 2
  have q22 := blk_cell BQ2.out 2
  have p23 := blk_cell BP2.out 3
  have q23 := blk_cell BQ2.out 3
  have p30 := blk_cell BP3.out 0
  have q30 := blk_cell BQ3.out 0
  have p31 := blk_cell BP3.out 1
  have q31 := blk_cell BQ3.out 1
  have p32 := blk_cell BP3.out 2
  have q32 := blk_cell BQ3.out 2
  have p33 := blk_cell BP3.out 3
  have q33 := blk_cell BQ3.out 3
  have p40 := blk_cell BP4.out 0
  have q40 := blk_cell BQ4.out 0
  have p41 := blk_cell BP4.out 1
  have q41 := blk_cell BQ4.out 1
  have p42 := blk_cell BP4.out 2
  have q42 := blk_cell BQ4.out 2
  have p43 := blk_cell BP4.out 3
  have q43 := blk_cell BQ4.out 3
  simp only [List.getElem?_toArray, List.getElem?_cons_zero, List.getElem?_cons_succ] at p10 q10 p11 q11 p12 q12 p13 q13 p20 q20 p21 q21 p22 q22 p23 q23 p30 q30 p31 q31 p32 q32 p33 q33 p40 q40 p41 q41 p42 q42 p43 q43
  have N1 := hide NT1.out
  have N2 := hide NT2.out
  have N3 := hide NT3.out
  have N4 := hide NT4.out
  have GM := hide GM4.out
  clear BP1 BQ1 HP1 HQ1 NT1 GM1 BP2 BQ2 HP2 HQ2 NT2 GM2 BP3 BQ3 HP3 HQ3 NT3 GM3 BP4 BQ4 HP4 HQ4 NT4 GM4
  refine wp_region_held_drew (S := (fun w' => w'.cell? ⟨P1, 0, none⟩ = some (.int .i64 tn0) ∧ w'.cell? ⟨Q1, 0, none⟩ = some (.int .i64 t0) ∧ w'.cell? ⟨P1, 1, none⟩ = some (.string tn1) ∧ w'.cell? ⟨Q1, 1, none⟩ = some (.int .i64 t1) ∧ w'.cell? ⟨P1, 2, none⟩ = some (.int .i64 tn2) ∧ w'.cell? ⟨Q1, 2, none⟩ = some (.int .i64 t2) ∧ w'.cell? ⟨P1, 3, none⟩ = some (.slice a1 tn3.len c1) ∧ w'.cell? ⟨Q1, 3, none⟩ = some (.string t3) ∧ w'.cell? ⟨P2, 0, none⟩ = some (.int .i64 tn0) ∧ w'.cell? ⟨Q2, 0, none⟩ = some (.int .i64 t0) ∧ w'.cell? ⟨P2, 1, none⟩ = some (.string tn1) ∧ w'.cell? ⟨Q2, 1, none⟩ = some (.int .i64 t1) ∧ w'.cell? ⟨P2, 2, none⟩ = some (.int .i64 tn2) ∧ w'.cell? ⟨Q2, 2, none⟩ = some (.int .i64 t2) ∧ w'.cell? ⟨P2, 3, none⟩ = some (.slice a2 tn3.len c2) ∧ w'.cell? ⟨Q2, 3, none⟩ = some (.string t3) ∧ w'.cell? ⟨P3, 0, none⟩ = some (.int .i64 yn0) ∧ w'.cell? ⟨Q3, 0, none⟩ = some (.int .i64 y0) ∧ w'.cell? ⟨P3, 1, none⟩ = some (.string yn1) ∧ w'.cell? ⟨Q3, 1, none⟩ = some (.int .i64 y1) ∧ w'.cell? ⟨P3, 2, none⟩ = some (.int .i64 yn2) ∧ w'.cell? ⟨Q3, 2, none⟩ = some (.int .i64 y2) ∧ w'.cell? ⟨P3, 3, none⟩ = some (.slice a3 yn3.len c3) ∧ w'.cell? ⟨Q3, 3, none⟩ = some (.string y3) ∧ w'.cell? ⟨P4, 0, none⟩ = some (.int .i64 yn0) ∧ w'.cell? ⟨Q4, 0, none⟩ = some (.int .i64 y0) ∧ w'.cell? ⟨P4, 1, none⟩ = some (.string yn1) ∧ w'.cell? ⟨Q4, 1, none⟩ = some (.int .i64 y1) ∧ w'.cell? ⟨P4, 2, none⟩ = some (.int .i64 yn2) ∧ w'.cell? ⟨Q4, 2, none⟩ = some (.int .i64 y2) ∧ w'.cell? ⟨P4, 3, none⟩ = some (.slice a4 yn3.len c4) ∧ w'.cell? ⟨Q4, 3, none⟩ = some (.string y3))) (by kernel_rfl) (by go_keep) (fun hHeld => ?_)
  refine wpAnyH_ready (rs := [0]) (by kernel_rfl) (by simp) ?_
  refine AllReadyH.cons (i := 0) (o := _) rfl (fun K hK => ?_) ?_
  rotate_left
  · exact AllReadyH.nil
  go_simp
  refine (known_any _).mono ?_
  rintro e wc1 ⟨rfl, g⟩
  have WG := (Chg.refl (fun _ => False) wb4).drew.trans g
  have p10_1 := WG.cell (fun h => h) p10
  have q10_1 := WG.cell (fun h => h) q10
  have p11_1 := WG.cell (fun h => h) p11
  have q11_1 := WG.cell (fun h => h) q11
  have p12_1 := WG.cell (fun h => h) p12
  have q12_1 := WG.cell (fun h => h) q12
  have p13_1 := WG.cell (fun h => h) p13
  have q13_1 := WG.cell (fun h => h) q13
  have p20_1 := WG.cell (fun h => h) p20
  have q20_1 := WG.cell (fun h => h) q20
  have p21_1 := WG.cell (fun h => h) p21
  have q21_1 := WG.cell (fun h => h) q21
  have p22_1 := WG.cell (fun h => h) p22
  have q22_1 := WG.cell (fun h => h) q22
  have p23_1 := WG.cell (fun h => h) p23
  have q23_1 := WG.cell (fun h => h) q23
  have p30_1 := WG.cell (fun h => h) p30
  have q30_1 := WG.cell (fun h => h) q30
  have p31_1 := WG.cell (fun h => h) p31
  have q31_1 := WG.cell (fun h => h) q31
  have p32_1 := WG.cell (fun h => h) p32
  have q32_1 := WG.cell (fun h => h) q32
  have p33_1 := WG.cell (fun h => h) p33
  have q33_1 := WG.cell (fun h => h) q33
  have p40_1 := WG.cell (fun h => h) p40
  have q40_1 := WG.cell (fun h => h) q40
  have p41_1 := WG.cell (fun h => h) p41
  have q41_1 := WG.cell (fun h => h) q41
  have p42_1 := WG.cell (fun h => h) p42
  have q42_1 := WG.cell (fun h => h) q42
  have p43_1 := WG.cell (fun h => h) p43
  have q43_1 := WG.cell (fun h => h) q43
  have N1_1 := hide ((N1.out.chg WG (fun _ _ h => h)).up (Y := fun x => x < wc1.heap.size) (fun x hx => Nat.lt_of_lt_of_le hx WG.size))
  have N2_1 := hide ((N2.out.chg WG (fun _ _ h => h)).up (Y := fun x => x < wc1.heap.size) (fun x hx => Nat.lt_of_lt_of_le hx WG.size))
  have N3_1 := hide ((N3.out.chg WG (fun _ _ h => h)).up (Y := fun x => x < wc1.heap.size) (fun x hx => Nat.lt_of_lt_of_le hx WG.size))
  have N4_1 := hide ((N4.out.chg WG (fun _ _ h => h)).up (Y := fun x => x < wc1.heap.size) (fun x hx => Nat.lt_of_lt_of_le hx WG.size))
  have GM_1 := hide (GM.out.trans WG)
  clear g WG p10 q10 p11 q11 p12 q12 p13 q13 p20 q20 p21 q21 p22 q22 p23 q23 p30 q30 p31 q31 p32 q32 p33 q33 p40 q40 p41 q41 p42 q42 p43 q43 N1 N2 N3 N4 GM
  try go_simp
  refine hK.out _ _ ⟨p10_1, q10_1, p11_1, q11_1, p12_1, q12_1, p13_1, q13_1, p20_1, q20_1, p21_1, q21_1, p22_1, q22_1, p23_1, q23_1, p30_1, q30_1, p31_1, q31_1, p32_1, q32_1, p33_1, q33_1, p40_1, q40_1, p41_1, q41_1, p42_1, q42_1, p43_1, q43_1⟩ (fun hHeld => ?_)
  clear hK K
  try simp only [Act.put, List.getElem_toArray, List.getElem_cons_zero, List.getElem_cons_succ, List.setIfInBounds_toArray, List.set_cons_zero, List.set_cons_succ]
  first
    | (refine wpAnyH_take (i := 1) (v := undef) rfl (by kernel_rfl) (by kernel_rfl) (by kernel_rfl) (fun _ _ _ h => h) (Or.inr ⟨by rfl, rfl⟩) (by assumption) ?_)
    | (refine wpAnyH_take (i := 1) (v := ?_) rfl (by kernel_rfl) (by kernel_rfl) (by kernel_rfl) (fun _ _ _ h => h) (Or.inl ⟨by rfl, ?_⟩) (by assumption) ?_
       rotate_left
       (intro w hSw
        (try dsimp only at hSw)
        (go_simp <;> with_reducible rfl)))
  try simp only [Act.put, List.getElem_toArray, List.getElem_cons_zero, List.getElem_cons_succ, List.setIfInBounds_toArray, List.set_cons_zero, List.set_cons_succ]
  first
    | (refine wpAnyH_take (i := 2) (v := undef) rfl (by kernel_rfl) (by kernel_rfl) (by kernel_rfl) (fun _ _ _ h => h) (Or.inr ⟨by rfl, rfl⟩) (by assumption) ?_)
    | (refine wpAnyH_take (i := 2) (v := ?_) rfl (by kernel_rfl) (by kernel_rfl) (by kernel_rfl) (fun _ _ _ h => h) (Or.inl ⟨by rfl, ?_⟩) (by assumption) ?_
       rotate_left
       (intro w hSw
        (try dsimp only at hSw)
        (go_simp <;> with_reducible rfl)))
  try simp only [Act.put, List.getElem_toArray, List.getElem_cons_zero, List.getElem_cons_succ, List.setIfInBounds_toArray, List.set_cons_zero, List.set_cons_succ]
  first
    | (refine wpAnyH_take (i := 4) (v := undef) rfl (by kernel_rfl) (by kernel_rfl) (by kernel_rfl) (fun _ _ _ h => h) (Or.inr ⟨by rfl, rfl⟩) (by assumption) ?_)
    | (refine wpAnyH_take (i := 4) (v := ?_) rfl (by kernel_rfl) (by kernel_rfl) (by kernel_rfl) (fun _ _ _ h => h) (Or.inl ⟨by rfl, ?_⟩) (by assumption) ?_
       rotate_left
       (intro w hSw
        (try dsimp only at hSw)
        (go_simp <;> with_reducible rfl)))
  try simp only [Act.put, List.getElem_toArray, List.getElem_cons_zero, List.getElem_cons_succ, List.setIfInBounds_toArray, List.set_cons_zero, List.set_cons_succ]
  refine wpAnyH_ready (rs := [3]) (by kernel_rfl) (by simp) ?_
  refine AllReadyH.cons (i := 3) (o := _) rfl (fun K hK => ?_) ?_
  rotate_left
  · exact AllReadyH.nil
  go_simp
  refine (fault_any t0 t1 t2 t3 _).mono ?_
  rintro e wc2 ⟨rfl, g⟩
  have WG := Chg.ofB g
  have p10_2 := WG.cell (fun h => h) p10_1
  have q10_2 := WG.cell (fun h => h) q10_1
  have p11_2 := WG.cell (fun h => h) p11_1
  have q11_2 := WG.cell (fun h => h) q11_1
  have p12_2 := WG.cell (fun h => h) p12_1
  have q12_2 := WG.cell (fun h => h) q12_1
  have p13_2 := WG.cell (fun h => h) p13_1
  have q13_2 := WG.cell (fun h => h) q13_1
  have p20_2 := WG.cell (fun h => h) p20_1
  have q20_2 := WG.cell (fun h => h) q20_1
  have p21_2 := WG.cell (fun h => h) p21_1
  have q21_2 := WG.cell (fun h => h) q21_1
  have p22_2 := WG.cell (fun h => h) p22_1
  have q22_2 := WG.cell (fun h => h) q22_1
  have p23_2 := WG.cell (fun h => h) p23_1
  have q23_2 := WG.cell (fun h => h) q23_1
  have p30_2 := WG.cell (fun h => h) p30_1
  have q30_2 := WG.cell (fun h => h) q30_1
  have p31_2 := WG.cell (fun h => h) p31_1
  have q31_2 := WG.cell (fun h => h) q31_1
  have p32_2 := WG.cell (fun h => h) p32_1
  have q32_2 := WG.cell (fun h => h) q32_1
  have p33_2 := WG.cell (fun h => h) p33_1
  have q33_2 := WG.cell (fun h => h) q33_1
  have p40_2 := WG.cell (fun h => h) p40_1
  have q40_2 := WG.cell (fun h => h) q40_1
  have p41_2 := WG.cell (fun h => h) p41_1
  have q41_2 := WG.cell (fun h => h) q41_1
  have p42_2 := WG.cell (fun h => h) p42_1
  have q42_2 := WG.cell (fun h => h) q42_1
  have p43_2 := WG.cell (fun h => h) p43_1
  have q43_2 := WG.cell (fun h => h) q43_1
  have N1_2 := hide ((N1_1.out.chg WG (fun _ _ h => h)).up (Y := fun x => x < wc2.heap.size) (fun x hx => Nat.lt_of_lt_of_le hx WG.size))
  have N2_2 := hide ((N2_1.out.chg WG (fun _ _ h => h)).up (Y := fun x => x < wc2.heap.size) (fun x hx => Nat.lt_of_lt_of_le hx WG.size))
  have N3_2 := hide ((N3_1.out.chg WG (fun _ _ h => h)).up (Y := fun x => x < wc2.heap.size) (fun x hx => Nat.lt_of_lt_of_le hx WG.size))
  have N4_2 := hide ((N4_1.out.chg WG (fun _ _ h => h)).up (Y := fun x => x < wc2.heap.size) (fun x hx => Nat.lt_of_lt_of_le hx WG.size))
  have GM_2 := hide (GM_1.out.trans WG)
  clear g WG p10_1 q10_1 p11_1 q11_1 p12_1 q12_1 p13_1 q13_1 p20_1 q20_1 p21_1 q21_1 p22_1 q22_1 p23_1 q23_1 p30_1 q30_1 p31_1 q31_1 p32_1 q32_1 p33_1 q33_1 p40_1 q40_1 p41_1 q41_1 p42_1 q42_1 p43_1 q43_1 N1_1 N2_1 N3_1 N4_1 GM_1
  try go_simp
  refine hK.out _ _ ⟨p10_2, q10_2, p11_2, q11_2, p12_2, q12_2, p13_2, q13_2, p20_2, q20_2, p21_2, q21_2, p22_2, q22_2, p23_2, q23_2, p30_2, q30_2, p31_2, q31_2, p32_2, q32_2, p33_2, q33_2, p40_2, q40_2, p41_2, q41_2, p42_2, q42_2, p43_2, q43_2⟩ (fun hHeld => ?_)
  clear hK K
  try simp only [Act.put, List.getElem_toArray, List.getElem_cons_zero, List.getElem_cons_succ, List.setIfInBounds_toArray, List.set_cons_zero, List.set_cons_succ]
  first
    | (refine wpAnyH_take (i := 5) (v := undef) rfl (by kernel_rfl) (by kernel_rfl) (by kernel_rfl) (fun _ _ _ h => h) (Or.inr ⟨by rfl, rfl⟩) (by assumption) ?_)
    | (refine wpAnyH_take (i := 5) (v := ?_) rfl (by kernel_rfl) (by kernel_rfl) (by kernel_rfl) (fun _ _ _ h => h) (Or.inl ⟨by rfl, ?_⟩) (by assumption) ?_
       rotate_left
       (intro w hSw
        (try dsimp only at hSw)
        (go_simp <;> with_reducible rfl)))
  try simp only [Act.put, List.getElem_toArray, List.getElem_cons_zero, List.getElem_cons_succ, List.setIfInBounds_toArray, List.set_cons_zero, List.set_cons_succ]
  first
    | (refine wpAnyH_take (i := 6) (v := undef) rfl (by kernel_rfl) (by kernel_rfl) (by kernel_rfl) (fun _ _ _ h => h) (Or.inr ⟨by rfl, rfl⟩) (by assumption) ?_)
    | (refine wpAnyH_take (i := 6) (v := ?_) rfl (by kernel_rfl) (by kernel_rfl) (by kernel_rfl) (fun _ _ _ h => h) (Or.inl ⟨by rfl, ?_⟩) (by assumption) ?_
       rotate_left
       (intro w hSw
        (try dsimp only at hSw)
        (go_simp <;> with_reducible rfl)))
  try simp only [Act.put, List.getElem_toArray, List.getElem_cons_zero, List.getElem_cons_succ, List.setIfInBounds_toArray, List.set_cons_zero, List.set_cons_succ]
  first
    | (refine wpAnyH_take (i := 7) (v := undef) rfl (by kernel_rfl) (by kernel_rfl) (by kernel_rfl) (fun _ _ _ h => h) (Or.inr ⟨by rfl, rfl⟩) (by assumption) ?_)
    | (refine wpAnyH_take (i := 7) (v := ?_) rfl (by kernel_rfl) (by kernel_rfl) (by kernel_rfl) (fun _ _ _ h => h) (Or.inl ⟨by rfl, ?_⟩) (by assumption) ?_
       rotate_left
       (intro w hSw
        (try dsimp only at hSw)
        (go_simp <;> with_reducible rfl)))
  try simp only [Act.put, List.getElem_toArray, List.getElem_cons_zero, List.getElem_cons_succ, List.setIfInBounds_toArray, List.set_cons_zero, List.set_cons_succ]
  first
    | (refine wpAnyH_take (i := 8) (v := undef) rfl (by kernel_rfl) (by kernel_rfl) (by kernel_rfl) (fun _ _ _ h => h) (Or.inr ⟨by rfl, rfl⟩) (by assumption) ?_)
    | (refine wpAnyH_take (i := 8) (v := ?_) rfl (by kernel_rfl) (by kernel_rfl) (by kernel_rfl) (fun _ _ _ h => h) (Or.inl ⟨by rfl, ?_⟩) (by assumption) ?_
       rotate_left
       (intro w hSw
        (try dsimp only at hSw)
        (go_simp <;> with_reducible rfl)))
  try simp only [Act.put, List.getElem_toArray, List.getElem_cons_zero, List.getElem_cons_succ, List.setIfInBounds_toArray, List.set_cons_zero, List.set_cons_succ]
  first
    | (refine wpAnyH_take (i := 10) (v := undef) rfl (by kernel_rfl) (by kernel_rfl) (by kernel_rfl) (fun _ _ _ h => h) (Or.inr ⟨by rfl, rfl⟩) (by assumption) ?_)
    | (refine wpAnyH_take (i := 10) (v := ?_) rfl (by kernel_rfl) (by kernel_rfl) (by kernel_rfl) (fun _ _ _ h => h) (Or.inl ⟨by rfl, ?_⟩) (by assumption) ?_
       rotate_left
       (intro w hSw
        (try dsimp only at hSw)
        (go_simp <;> with_reducible rfl)))
  try simp only [Act.put, List.getElem_toArray, List.getElem_cons_zero, List.getElem_cons_succ, List.setIfInBounds_toArray, List.set_cons_zero, List.set_cons_succ]
  refine wpAnyH_ready (rs := [9]) (by kernel_rfl) (by simp) ?_
  refine AllReadyH.cons (i := 9) (o := _) rfl (fun K hK => ?_) ?_
  rotate_left
  · exact AllReadyH.nil
  go_simp
  refine (pof_any tn3 KT.out.1 KT.out.2 tn0 tn1 tn2 _ _ _ (fun x hx => hx) N1_2.out).mono ?_
  rintro e wc3 ⟨⟨v, rfl, hv⟩, g⟩
  have WG := g
  have p10_3 := WG.cell (fun h => h) p10_2
  have q10_3 := WG.cell (fun h => h) q10_2
  have p11_3 := WG.cell (fun h => h) p11_2
  have q11_3 := WG.cell (fun h => h) q11_2
  have p12_3 := WG.cell (fun h => h) p12_2
  have q12_3 := WG.cell (fun h => h) q12_2
  have p13_3 := WG.cell (fun h => h) p13_2
  have q13_3 := WG.cell (fun h => h) q13_2
  have p20_3 := WG.cell (fun h => h) p20_2
  have q20_3 := WG.cell (fun h => h) q20_2
  have p21_3 := WG.cell (fun h => h) p21_2
  have q21_3 := WG.cell (fun h => h) q21_2
  have p22_3 := WG.cell (fun h => h) p22_2
  have q22_3 := WG.cell (fun h => h) q22_2
  have p23_3 := WG.cell (fun h => h) p23_2
  have q23_3 := WG.cell (fun h => h) q23_2
  have p30_3 := WG.cell (fun h => h) p30_2
  have q30_3 := WG.cell (fun h => h) q30_2
  have p31_3 := WG.cell (fun h => h) p31_2
  have q31_3 := WG.cell (fun h => h) q31_2
  have p32_3 := WG.cell (fun h => h) p32_2
  have q32_3 := WG.cell (fun h => h) q32_2
  have p33_3 := WG.cell (fun h => h) p33_2
  have q33_3 := WG.cell (fun h => h) q33_2
  have p40_3 := WG.cell (fun h => h) p40_2
  have q40_3 := WG.cell (fun h => h) q40_2
  have p41_3 := WG.cell (fun h => h) p41_2
  have q41_3 := WG.cell (fun h => h) q41_2
  have p42_3 := WG.cell (fun h => h) p42_2
  have q42_3 := WG.cell (fun h => h) q42_2
  have p43_3 := WG.cell (fun h => h) p43_2
  have q43_3 := WG.cell (fun h => h) q43_2
  have N1_3 := hide ((N1_2.out.chg WG (fun _ _ h => h)).up (Y := fun x => x < wc3.heap.size) (fun x hx => Nat.lt_of_lt_of_le hx WG.size))
  have N2_3 := hide ((N2_2.out.chg WG (fun _ _ h => h)).up (Y := fun x => x < wc3.heap.size) (fun x hx => Nat.lt_of_lt_of_le hx WG.size))
  have N3_3 := hide ((N3_2.out.chg WG (fun _ _ h => h)).up (Y := fun x => x < wc3.heap.size) (fun x hx => Nat.lt_of_lt_of_le hx WG.size))
  have N4_3 := hide ((N4_2.out.chg WG (fun _ _ h => h)).up (Y := fun x => x < wc3.heap.size) (fun x hx => Nat.lt_of_lt_of_le hx WG.size))
  have GM_3 := hide (GM_2.out.trans WG)
  obtain ⟨va, vc, rfl, _⟩ := id hv
  have NV1 := hide (hv.up (Y := fun x => x < wc3.heap.size) (fun x hx => hx.2))
  clear hv
  clear g WG p10_2 q10_2 p11_2 q11_2 p12_2 q12_2 p13_2 q13_2 p20_2 q20_2 p21_2 q21_2 p22_2 q22_2 p23_2 q23_2 p30_2 q30_2 p31_2 q31_2 p32_2 q32_2 p33_2 q33_2 p40_2 q40_2 p41_2 q41_2 p42_2 q42_2 p43_2 q43_2 N1_2 N2_2 N3_2 N4_2 GM_2
  try go_simp
  refine hK.out _ _ ⟨p10_3, q10_3, p11_3, q11_3, p12_3, q12_3, p13_3, q13_3, p20_3, q20_3, p21_3, q21_3, p22_3, q22_3, p23_3, q23_3, p30_3, q30_3, p31_3, q31_3, p32_3, q32_3, p33_3, q33_3, p40_3, q40_3, p41_3, q41_3, p42_3, q42_3, p43_3, q43_3⟩ (fun hHeld => ?_)
  clear hK K
  try simp only [Act.put, List.getElem_toArray, List.getElem_cons_zero, List.getElem_cons_succ, List.setIfInBounds_toArray, List.set_cons_zero, List.set_cons_succ]
  refine wpAnyH_ready (rs := [11]) (by kernel_rfl) (by simp) ?_
  refine AllReadyH.cons (i := 11) (o := _) rfl (fun K hK => ?_) ?_
  rotate_left
  · exact AllReadyH.nil
  go_simp
  refine (plike_any true (tn0, tn1, tn2, tn3) (tn0, tn1, tn2, tn3) KT.out KT.out _ _ (fun x => x < _) _ (fun x hx => hx) ⟨_, _, rfl, NV1.out⟩ ⟨_, _, rfl, N2_3.out⟩).mono ?_
  rintro e wc4 ⟨rfl, g⟩
  have WG := g
  have p10_4 := WG.cell (fun h => h) p10_3
  have q10_4 := WG.cell (fun h => h) q10_3
  have p11_4 := WG.cell (fun h => h) p11_3
  have q11_4 := WG.cell (fun h => h) q11_3
  have p12_4 := WG.cell (fun h => h) p12_3
  have q12_4 := WG.cell (fun h => h) q12_3
  have p13_4 := WG.cell (fun h => h) p13_3
  have q13_4 := WG.cell (fun h => h) q13_3
  have p20_4 := WG.cell (fun h => h) p20_3
  have q20_4 := WG.cell (fun h => h) q20_3
  have p21_4 := WG.cell (fun h => h) p21_3
  have q21_4 := WG.cell (fun h => h) q21_3
  have p22_4 := WG.cell (fun h => h) p22_3
  have q22_4 := WG.cell (fun h => h) q22_3
  have p23_4 := WG.cell (fun h => h) p23_3
  have q23_4 := WG.cell (fun h => h) q23_3
  have p30_4 := WG.cell (fun h => h) p30_3
  have q30_4 := WG.cell (fun h => h) q30_3
  have p31_4 := WG.cell (fun h => h) p31_3
  have q31_4 := WG.cell (fun h => h) q31_3
  have p32_4 := WG.cell (fun h => h) p32_3
  have q32_4 := WG.cell (fun h => h) q32_3
  have p33_4 := WG.cell (fun h => h) p33_3
  have q33_4 := WG.cell (fun h => h) q33_3
  have p40_4 := WG.cell (fun h => h) p40_3
  have q40_4 := WG.cell (fun h => h) q40_3
  have p41_4 := WG.cell (fun h => h) p41_3
  have q41_4 := WG.cell (fun h => h) q41_3
  have p42_4 := WG.cell (fun h => h) p42_3
  have q42_4 := WG.cell (fun h => h) q42_3
  have p43_4 := WG.cell (fun h => h) p43_3
  have q43_4 := WG.cell (fun h => h) q43_3
  have N1_4 := hide ((N1_3.out.chg WG (fun _ _ h => h)).up (Y := fun x => x < wc4.heap.size) (fun x hx => Nat.lt_of_lt_of_le hx WG.size))
  have N2_4 := hide ((N2_3.out.chg WG (fun _ _ h => h)).up (Y := fun x => x < wc4.heap.size) (fun x hx => Nat.lt_of_lt_of_le hx WG.size))
  have N3_4 := hide ((N3_3.out.chg WG (fun _ _ h => h)).up (Y := fun x => x < wc4.heap.size) (fun x hx => Nat.lt_of_lt_of_le hx WG.size))
  have N4_4 := hide ((N4_3.out.chg WG (fun _ _ h => h)).up (Y := fun x => x < wc4.heap.size) (fun x hx => Nat.lt_of_lt_of_le hx WG.size))
  have GM_4 := hide (GM_3.out.trans WG)
  clear g WG p10_3 q10_3 p11_3 q11_3 p12_3 q12_3 p13_3 q13_3 p20_3 q20_3 p21_3 q21_3 p22_3 q22_3 p23_3 q23_3 p30_3 q30_3 p31_3 q31_3 p32_3 q32_3 p33_3 q33_3 p40_3 q40_3 p41_3 q41_3 p42_3 q42_3 p43_3 q43_3 N1_3 N2_3 N3_3 N4_3 GM_3
  try go_simp
  rw [likeN_refl]
  refine hK.out _ _ ⟨p10_4, q10_4, p11_4, q11_4, p12_4, q12_4, p13_4, q13_4, p20_4, q20_4, p21_4, q21_4, p22_4, q22_4, p23_4, q23_4, p30_4, q30_4, p31_4, q31_4, p32_4, q32_4, p33_4, q33_4, p40_4, q40_4, p41_4, q41_4, p42_4, q42_4, p43_4, q43_4⟩ (fun hHeld => ?_)
  clear hK K
  try simp only [Act.put, List.getElem_toArray, List.getElem_cons_zero, List.getElem_cons_succ, List.setIfInBounds_toArray, List.set_cons_zero, List.set_cons_succ]
  first
    | (refine wpAnyH_take (i := 12) (v := undef) rfl (by kernel_rfl) (by kernel_rfl) (by kernel_rfl) (fun _ _ _ h => h) (Or.inr ⟨by rfl, rfl⟩) (by assumption) ?_)
    | (refine wpAnyH_take (i := 12) (v := ?_) rfl (by kernel_rfl) (by kernel_rfl) (by kernel_rfl) (fun _ _ _ h => h) (Or.inl ⟨by rfl, ?_⟩) (by assumption) ?_
       rotate_left
       (intro w hSw
        (try dsimp only at hSw)
        (go_simp <;> with_reducible rfl)))
  try simp only [Act.put, List.getElem_toArray, List.getElem_cons_zero, List.getElem_cons_succ, List.setIfInBounds_toArray, List.set_cons_zero, List.set_cons_succ]
  first
    | (refine wpAnyH_take (i := 13) (v := undef) rfl (by kernel_rfl) (by kernel_rfl) (by kernel_rfl) (fun _ _ _ h => h) (Or.inr ⟨by rfl, rfl⟩) (by assumption) ?_)
    | (refine wpAnyH_take (i := 13) (v := ?_) rfl (by kernel_rfl) (by kernel_rfl) (by kernel_rfl) (fun _ _ _ h => h) (Or.inl ⟨by rfl, ?_⟩) (by assumption) ?_
       rotate_left
       (intro w hSw
        (try dsimp only at hSw)
        (go_simp <;> with_reducible rfl)))
  try simp only [Act.put, List.getElem_toArray, List.getElem_cons_zero, List.getElem_cons_succ, List.setIfInBounds_toArray, List.set_cons_zero, List.set_cons_succ]
  first
    | (refine wpAnyH_take (i := 14) (v := undef) rfl (by kernel_rfl) (by kernel_rfl) (by kernel_rfl) (fun _ _ _ h => h) (Or.inr ⟨by rfl, rfl⟩) (by assumption) ?_)
    | (refine wpAnyH_take (i := 14) (v := ?_) rfl (by kernel_rfl) (by kernel_rfl) (by kernel_rfl) (fun _ _ _ h => h) (Or.inl ⟨by rfl, ?_⟩) (by assumption) ?_
       rotate_left
       (intro w hSw
        (try dsimp only at hSw)
        (go_simp <;> with_reducible rfl)))
  try simp only [Act.put, List.getElem_toArray, List.getElem_cons_zero, List.getElem_cons_succ, List.setIfInBounds_toArray, List.set_cons_zero, List.set_cons_succ]
  first
    | (refine wpAnyH_take (i := 16) (v := undef) rfl (by kernel_rfl) (by kernel_rfl) (by kernel_rfl) (fun _ _ _ h => h) (Or.inr ⟨by rfl, rfl⟩) (by assumption) ?_)
    | (refine wpAnyH_take (i := 16) (v := ?_) rfl (by kernel_rfl) (by kernel_rfl) (by kernel_rfl) (fun _ _ _ h => h) (Or.inl ⟨by rfl, ?_⟩) (by assumption) ?_
       rotate_left
       (intro w hSw
        (try dsimp only at hSw)
        (go_simp <;> with_reducible rfl)))
  try simp only [Act.put, List.getElem_toArray, List.getElem_cons_zero, List.getElem_cons_succ, List.setIfInBounds_toArray, List.set_cons_zero, List.set_cons_succ]
  refine wpAnyH_ready (rs := [15]) (by kernel_rfl) (by simp) ?_
  refine AllReadyH.cons (i := 15) (o := _) rfl (fun K hK => ?_) ?_
  rotate_left
  · exact AllReadyH.nil
  go_simp
  refine (fault_any y0 y1 y2 y3 _).mono ?_
  rintro e wc5 ⟨rfl, g⟩
  have WG := Chg.ofB g
  have p10_5 := WG.cell (fun h => h) p10_4
  have q10_5 := WG.cell (fun h => h) q10_4
  have p11_5 := WG.cell (fun h => h) p11_4
  have q11_5 := WG.cell (fun h => h) q11_4
  have p12_5 := WG.cell (fun h => h) p12_4
  have q12_5 := WG.cell (fun h => h) q12_4
  have p13_5 := WG.cell (fun h => h) p13_4
  have q13_5 := WG.cell (fun h => h) q13_4
  have p20_5 := WG.cell (fun h => h) p20_4
  have q20_5 := WG.cell (fun h => h) q20_4
  have p21_5 := WG.cell (fun h => h) p21_4
  have q21_5 := WG.cell (fun h => h) q21_4
  have p22_5 := WG.cell (fun h => h) p22_4
  have q22_5 := WG.cell (fun h => h) q22_4
  have p23_5 := WG.cell (fun h => h) p23_4
  have q23_5 := WG.cell (fun h => h) q23_4
  have p30_5 := WG.cell (fun h => h) p30_4
  have q30_5 := WG.cell (fun h => h) q30_4
  have p31_5 := WG.cell (fun h => h) p31_4
  have q31_5 := WG.cell (fun h => h) q31_4
  have p32_5 := WG.cell (fun h => h) p32_4
  have q32_5 := WG.cell (fun h => h) q32_4
  have p33_5 := WG.cell (fun h => h) p33_4
  have q33_5 := WG.cell (fun h => h) q33_4
  have p40_5 := WG.cell (fun h => h) p40_4
  have q40_5 := WG.cell (fun h => h) q40_4
  have p41_5 := WG.cell (fun h => h) p41_4
  have q41_5 := WG.cell (fun h => h) q41_4
  have p42_5 := WG.cell (fun h => h) p42_4
  have q42_5 := WG.cell (fun h => h) q42_4
  have p43_5 := WG.cell (fun h => h) p43_4
  have q43_5 := WG.cell (fun h => h) q43_4
  have N1_5 := hide ((N1_4.out.chg WG (fun _ _ h => h)).up (Y := fun x => x < wc5.heap.size) (fun x hx => Nat.lt_of_lt_of_le hx WG.size))
  have N2_5 := hide ((N2_4.out.chg WG (fun _ _ h => h)).up (Y := fun x => x < wc5.heap.size) (fun x hx => Nat.lt_of_lt_of_le hx WG.size))
  have N3_5 := hide ((N3_4.out.chg WG (fun _ _ h => h)).up (Y := fun x => x < wc5.heap.size) (fun x hx => Nat.lt_of_lt_of_le hx WG.size))
  have N4_5 := hide ((N4_4.out.chg WG (fun _ _ h => h)).up (Y := fun x => x < wc5.heap.size) (fun x hx => Nat.lt_of_lt_of_le hx WG.size))
  have GM_5 := hide (GM_4.out.trans WG)
  clear g WG p10_4 q10_4 p11_4 q11_4 p12_4 q12_4 p13_4 q13_4 p20_4 q20_4 p21_4 q21_4 p22_4 q22_4 p23_4 q23_4 p30_4 q30_4 p31_4 q31_4 p32_4 q32_4 p33_4 q33_4 p40_4 q40_4 p41_4 q41_4 p42_4 q42_4 p43_4 q43_4 N1_4 N2_4 N3_4 N4_4 GM_4
  try go_simp
  refine hK.out _ _ ⟨p10_5, q10_5, p11_5, q11_5, p12_5, q12_5, p13_5, q13_5, p20_5, q20_5, p21_5, q21_5, p22_5, q22_5, p23_5, q23_5, p30_5, q30_5, p31_5, q31_5, p32_5, q32_5, p33_5, q33_5, p40_5, q40_5, p41_5, q41_5, p42_5, q42_5, p43_5, q43_5⟩ (fun hHeld => ?_)
  clear hK K
  try simp only [Act.put, List.getElem_toArray, List.getElem_cons_zero, List.getElem_cons_succ, List.setIfInBounds_toArray, List.set_cons_zero, List.set_cons_succ]
  first
    | (refine wpAnyH_take (i := 17) (v := undef) rfl (by kernel_rfl) (by kernel_rfl) (by kernel_rfl) (fun _ _ _ h => h) (Or.inr ⟨by rfl, rfl⟩) (by assumption) ?_)
    | (refine wpAnyH_take (i := 17) (v := ?_) rfl (by kernel_rfl) (by kernel_rfl) (by kernel_rfl) (fun _ _ _ h => h) (Or.inl ⟨by rfl, ?_⟩) (by assumption) ?_
       rotate_left
       (intro w hSw
        (try dsimp only at hSw)
        (go_simp <;> with_reducible rfl)))
  try simp only [Act.put, List.getElem_toArray, List.getElem_cons_zero, List.getElem_cons_succ, List.setIfInBounds_toArray, List.set_cons_zero, List.set_cons_succ]
  first
    | (refine wpAnyH_take (i := 18) (v := undef) rfl (by kernel_rfl) (by kernel_rfl) (by kernel_rfl) (fun _ _ _ h => h) (Or.inr ⟨by rfl, rfl⟩) (by assumption) ?_)
    | (refine wpAnyH_take (i := 18) (v := ?_) rfl (by kernel_rfl) (by kernel_rfl) (by kernel_rfl) (fun _ _ _ h => h) (Or.inl ⟨by rfl, ?_⟩) (by assumption) ?_
       rotate_left
       (intro w hSw
        (try dsimp only at hSw)
        (go_simp <;> with_reducible rfl)))
  try simp only [Act.put, List.getElem_toArray, List.getElem_cons_zero, List.getElem_cons_succ, List.setIfInBounds_toArray, List.set_cons_zero, List.set_cons_succ]
  first
    | (refine wpAnyH_take (i := 19) (v := undef) rfl (by kernel_rfl) (by kernel_rfl) (by kernel_rfl) (fun _ _ _ h => h) (Or.inr ⟨by rfl, rfl⟩) (by assumption) ?_)
    | (refine wpAnyH_take (i := 19) (v := ?_) rfl (by kernel_rfl) (by kernel_rfl) (by kernel_rfl) (fun _ _ _ h => h) (Or.inl ⟨by rfl, ?_⟩) (by assumption) ?_
       rotate_left
       (intro w hSw
        (try dsimp only at hSw)
        (go_simp <;> with_reducible rfl)))
  try simp only [Act.put, List.getElem_toArray, List.getElem_cons_zero, List.getElem_cons_succ, List.setIfInBounds_toArray, List.set_cons_zero, List.set_cons_succ]
  first
    | (refine wpAnyH_take (i := 20) (v := undef) rfl (by kernel_rfl) (by kernel_rfl) (by kernel_rfl) (fun _ _ _ h => h) (Or.inr ⟨by rfl, rfl⟩) (by assumption) ?_)
    | (refine wpAnyH_take (i := 20) (v := ?_) rfl (by kernel_rfl) (by kernel_rfl) (by kernel_rfl) (fun _ _ _ h => h) (Or.inl ⟨by rfl, ?_⟩) (by assumption) ?_
       rotate_left
       (intro w hSw
        (try dsimp only at hSw)
        (go_simp <;> with_reducible rfl)))
  try simp only [Act.put, List.getElem_toArray, List.getElem_cons_zero, List.getElem_cons_succ, List.setIfInBounds_toArray, List.set_cons_zero, List.set_cons_succ]
  first
    | (refine wpAnyH_take (i := 22) (v := undef) rfl (by kernel_rfl) (by kernel_rfl) (by kernel_rfl) (fun _ _ _ h => h) (Or.inr ⟨by rfl, rfl⟩) (by assumption) ?_)
    | (refine wpAnyH_take (i := 22) (v := ?_) rfl (by kernel_rfl) (by kernel_rfl) (by kernel_rfl) (fun _ _ _ h => h) (Or.inl ⟨by rfl, ?_⟩) (by assumption) ?_
       rotate_left
       (intro w hSw
        (try dsimp only at hSw)
        (go_simp <;> with_reducible rfl)))
  try simp only [Act.put, List.getElem_toArray, List.getElem_cons_zero, List.getElem_cons_succ, List.setIfInBounds_toArray, List.set_cons_zero, List.set_cons_succ]
  refine wpAnyH_ready (rs := [21]) (by kernel_rfl) (by simp) ?_
  refine AllReadyH.cons (i := 21) (o := _) rfl (fun K hK => ?_) ?_
  rotate_left
  · exact AllReadyH.nil
  go_simp
  refine (pof_any yn3 KY.out.1 KY.out.2 yn0 yn1 yn2 _ _ _ (fun x hx => hx) N3_5.out).mono ?_
  rintro e wc6 ⟨⟨v, rfl, hv⟩, g⟩
  have WG := g
  have p10_6 := WG.cell (fun h => h) p10_5
  have q10_6 := WG.cell (fun h => h) q10_5
  have p11_6 := WG.cell (fun h => h) p11_5
  have q11_6 := WG.cell (fun h => h) q11_5
  have p12_6 := WG.cell (fun h => h) p12_5
  have q12_6 := WG.cell (fun h => h) q12_5
  have p13_6 := WG.cell (fun h => h) p13_5
  have q13_6 := WG.cell (fun h => h) q13_5
  have p20_6 := WG.cell (fun h => h) p20_5
  have q20_6 := WG.cell (fun h => h) q20_5
  have p21_6 := WG.cell (fun h => h) p21_5
  have q21_6 := WG.cell (fun h => h) q21_5
  have p22_6 := WG.cell (fun h => h) p22_5
  have q22_6 := WG.cell (fun h => h) q22_5
  have p23_6 := WG.cell (fun h => h) p23_5
  have q23_6 := WG.cell (fun h => h) q23_5
  have p30_6 := WG.cell (fun h => h) p30_5
  have q30_6 := WG.cell (fun h => h) q30_5
  have p31_6 := WG.cell (fun h => h) p31_5
  have q31_6 := WG.cell (fun h => h) q31_5
  have p32_6 := WG.cell (fun h => h) p32_5
  have q32_6 := WG.cell (fun h => h) q32_5
  have p33_6 := WG.cell (fun h => h) p33_5
  have q33_6 := WG.cell (fun h => h) q33_5
  have p40_6 := WG.cell (fun h => h) p40_5
  have q40_6 := WG.cell (fun h => h) q40_5
  have p41_6 := WG.cell (fun h => h) p41_5
  have q41_6 := WG.cell (fun h => h) q41_5
  have p42_6 := WG.cell (fun h => h) p42_5
  have q42_6 := WG.cell (fun h => h) q42_5
  have p43_6 := WG.cell (fun h => h) p43_5
  have q43_6 := WG.cell (fun h => h) q43_5
  have N1_6 := hide ((N1_5.out.chg WG (fun _ _ h => h)).up (Y := fun x => x < wc6.heap.size) (fun x hx => Nat.lt_of_lt_of_le hx WG.size))
  have N2_6 := hide ((N2_5.out.chg WG (fun _ _ h => h)).up (Y := fun x => x < wc6.heap.size) (fun x hx => Nat.lt_of_lt_of_le hx WG.size))
  have N3_6 := hide ((N3_5.out.chg WG (fun _ _ h => h)).up (Y := fun x => x < wc6.heap.size) (fun x hx => Nat.lt_of_lt_of_le hx WG.size))
  have N4_6 := hide ((N4_5.out.chg WG (fun _ _ h => h)).up (Y := fun x => x < wc6.heap.size) (fun x hx => Nat.lt_of_lt_of_le hx WG.size))
  have GM_6 := hide (GM_5.out.trans WG)
  obtain ⟨va, vc, rfl, _⟩ := id hv
  have NV3 := hide (hv.up (Y := fun x => x < wc6.heap.size) (fun x hx => hx.2))
  clear hv
  clear g WG p10_5 q10_5 p11_5 q11_5 p12_5 q12_5 p13_5 q13_5 p20_5 q20_5 p21_5 q21_5 p22_5 q22_5 p23_5 q23_5 p30_5 q30_5 p31_5 q31_5 p32_5 q32_5 p33_5 q33_5 p40_5 q40_5 p41_5 q41_5 p42_5 q42_5 p43_5 q43_5 N1_5 N2_5 N3_5 N4_5 GM_5
  try go_simp
  refine hK.out _ _ ⟨p10_6, q10_6, p11_6, q11_6, p12_6, q12_6, p13_6, q13_6, p20_6, q20_6, p21_6, q21_6, p22_6, q22_6, p23_6, q23_6, p30_6, q30_6, p31_6, q31_6, p32_6, q32_6, p33_6, q33_6, p40_6, q40_6, p41_6, q41_6, p42_6, q42_6, p43_6, q43_6⟩ (fun hHeld => ?_)
  clear hK K
  try simp only [Act.put, List.getElem_toArray, List.getElem_cons_zero, List.getElem_cons_succ, List.setIfInBounds_toArray, List.set_cons_zero, List.set_cons_succ]
  refine wpAnyH_ready (rs := [23]) (by kernel_rfl) (by simp) ?_
  refine AllReadyH.cons (i := 23) (o := _) rfl (fun K hK => ?_) ?_
  rotate_left
  · exact AllReadyH.nil
  go_simp
  refine (plike_any true (yn0, yn1, yn2, yn3) (yn0, yn1, yn2, yn3) KY.out KY.out _ _ (fun x => x < _) _ (fun x hx => hx) ⟨_, _, rfl, NV3.out⟩ ⟨_, _, rfl, N4_6.out⟩).mono ?_
  rintro e wc7 ⟨rfl, g⟩
  have WG := g
  have p10_7 := WG.cell (fun h => h) p10_6
  have q10_7 := WG.cell (fun h => h) q10_6
  have p11_7 := WG.cell (fun h => h) p11_6
  have q11_7 := WG.cell (fun h => h) q11_6
  have p12_7 := WG.cell (fun h => h) p12_6
  have q12_7 := WG.cell (fun h => h) q12_6
  have p13_7 := WG.cell (fun h => h) p13_6
  have q13_7 := WG.cell (fun h => h) q13_6
  have p20_7 := WG.cell (fun h => h) p20_6
  have q20_7 := WG.cell (fun h => h) q20_6
  have p21_7 := WG.cell (fun h => h) p21_6
  have q21_7 := WG.cell (fun h => h) q21_6
  have p22_7 := WG.cell (fun h => h) p22_6
  have q22_7 := WG.cell (fun h => h) q22_6
  have p23_7 := WG.cell (fun h => h) p23_6
  have q23_7 := WG.cell (fun h => h) q23_6
  have p30_7 := WG.cell (fun h => h) p30_6
  have q30_7 := WG.cell (fun h => h) q30_6
  have p31_7 := WG.cell (fun h => h) p31_6
  have q31_7 := WG.cell (fun h => h) q31_6
  have p32_7 := WG.cell (fun h => h) p32_6
  have q32_7 := WG.cell (fun h => h) q32_6
  have p33_7 := WG.cell (fun h => h) p33_6
  have q33_7 := WG.cell (fun h => h) q33_6
  have p40_7 := WG.cell (fun h => h) p40_6
  have q40_7 := WG.cell (fun h => h) q40_6
  have p41_7 := WG.cell (fun h => h) p41_6
  have q41_7 := WG.cell (fun h => h) q41_6
  have p42_7 := WG.cell (fun h => h) p42_6
  have q42_7 := WG.cell (fun h => h) q42_6
  have p43_7 := WG.cell (fun h => h) p43_6
  have q43_7 := WG.cell (fun h => h) q43_6
  have N1_7 := hide ((N1_6.out.chg WG (fun _ _ h => h)).up (Y := fun x => x < wc7.heap.size) (fun x hx => Nat.lt_of_lt_of_le hx WG.size))
  have N2_7 := hide ((N2_6.out.chg WG (fun _ _ h => h)).up (Y := fun x => x < wc7.heap.size) (fun x hx => Nat.lt_of_lt_of_le hx WG.size))
  have N3_7 := hide ((N3_6.out.chg WG (fun _ _ h => h)).up (Y := fun x => x < wc7.heap.size) (fun x hx => Nat.lt_of_lt_of_le hx WG.size))
  have N4_7 := hide ((N4_6.out.chg WG (fun _ _ h => h)).up (Y := fun x => x < wc7.heap.size) (fun x hx => Nat.lt_of_lt_of_le hx WG.size))
  have GM_7 := hide (GM_6.out.trans WG)
  clear g WG p10_6 q10_6 p11_6 q11_6 p12_6 q12_6 p13_6 q13_6 p20_6 q20_6 p21_6 q21_6 p22_6 q22_6 p23_6 q23_6 p30_6 q30_6 p31_6 q31_6 p32_6 q32_6 p33_6 q33_6 p40_6 q40_6 p41_6 q41_6 p42_6 q42_6 p43_6 q43_6 N1_6 N2_6 N3_6 N4_6 GM_6
  try go_simp
  rw [likeN_refl]
  refine hK.out _ _ ⟨p10_7, q10_7, p11_7, q11_7, p12_7, q12_7, p13_7, q13_7, p20_7, q20_7, p21_7, q21_7, p22_7, q22_7, p23_7, q23_7, p30_7, q30_7, p31_7, q31_7, p32_7, q32_7, p33_7, q33_7, p40_7, q40_7, p41_7, q41_7, p42_7, q42_7, p43_7, q43_7⟩ (fun hHeld => ?_)
  clear hK K
  try simp only [Act.put, List.getElem_toArray, List.getElem_cons_zero, List.getElem_cons_succ, List.setIfInBounds_toArray, List.set_cons_zero, List.set_cons_succ]
  first
    | (refine wpAnyH_take (i := 24) (v := undef) rfl (by kernel_rfl) (by kernel_rfl) (by kernel_rfl) (fun _ _ _ h => h) (Or.inr ⟨by rfl, rfl⟩) (by assumption) ?_)
    | (refine wpAnyH_take (i := 24) (v := ?_) rfl (by kernel_rfl) (by kernel_rfl) (by kernel_rfl) (fun _ _ _ h => h) (Or.inl ⟨by rfl, ?_⟩) (by assumption) ?_
       rotate_left
       (intro w hSw
        (try dsimp only at hSw)
        (go_simp <;> with_reducible rfl)))
  try simp only [Act.put, List.getElem_toArray, List.getElem_cons_zero, List.getElem_cons_succ, List.setIfInBounds_toArray, List.set_cons_zero, List.set_cons_succ]
  first
    | (refine wpAnyH_take (i := 25) (v := undef) rfl (by kernel_rfl) (by kernel_rfl) (by kernel_rfl) (fun _ _ _ h => h) (Or.inr ⟨by rfl, rfl⟩) (by assumption) ?_)
    | (refine wpAnyH_take (i := 25) (v := ?_) rfl (by kernel_rfl) (by kernel_rfl) (by kernel_rfl) (fun _ _ _ h => h) (Or.inl ⟨by rfl, ?_⟩) (by assumption) ?_
       rotate_left
       (intro w hSw
        (try dsimp only at hSw)
        (go_simp <;> with_reducible rfl)))
  try simp only [Act.put, List.getElem_toArray, List.getElem_cons_zero, List.getElem_cons_succ, List.setIfInBounds_toArray, List.set_cons_zero, List.set_cons_succ]
  refine wpAnyH_done (by kernel_rfl) ?_ _
  go_wp2_with fail
  go_ret
  exact ⟨rfl, GM_7.out⟩
theorem ones_below (s0 : ByteArray) (hs0 : s0.size ≤ maxLen) (w : World) : Calls Try.prog 5 #[.string s0] w fun e w' => e = .returned (.bool true) ∧ Below w.heap.size w w' :=
  (ones_walk s0 (by unfold maxLen at hs0; omega) w).mono fun e w' h => ⟨h.1, h.2.below (Nat.le_refl _) (fun _ h => h.elim)⟩
end Go.Proofs.Ytboeeaekhijboaa
