/- The walk of ParseTexts: the items of any text. -/
import Derived.Test.YtboeeaekhijboaaShort
import Derived.Test.YtboeeaekhijboaaKnown
import Derived.Test.YtboeeaekhijboaaPrtext
import Derived.Test.YtboeeaekhijboaaPofItem
import Derived.Test.YtboeeaekhijboaaPlikeItem
import Derived.Test.YtboeeaekhijboaaPitlaw
import Derived.Test.YtboeeaekhijboaaSame
namespace Go.Proofs.Ytboeeaekhijboaa
open Go.RowKit
set_option linter.unusedVariables false
set_option linter.unusedSimpArgs false

theorem iw_get {w : World} {X : Nat → Prop} {a : Option Addr} {c : Nat} {l : List It} (h : Iw w X (.slice a l.length c) l) (i : Nat) (hi : i < l.length) : ∃ g off, a = some ⟨g, off, none⟩ ∧ ∃ b1 d1 b2 d2,
  Sw w X (.slice b1 (l[i]).2.1.length d1) (l[i]).2.1 ∧ Ts w X (.slice b2 (l[i]).2.2.1.len d2) (l[i]).2.2.1 ∧
  w.cell? ⟨g, off + i * 5, none⟩ = some (.int .i64 (l[i]).1) ∧ w.cell? ⟨g, off + i * 5 + 1, none⟩ = some (.slice b1 (l[i]).2.1.length d1) ∧ w.cell? ⟨g, off + i * 5 + 2, none⟩ = some (.slice b2 (l[i]).2.2.1.len d2) ∧ w.cell? ⟨g, off + i * 5 + 3, none⟩ = some (.int .i64 (l[i]).2.2.2.1) ∧ w.cell? ⟨g, off + i * 5 + 4, none⟩ = some (.int .i64 (l[i]).2.2.2.2) := by
 obtain ⟨a', c', e, h⟩ := h
 injection e with e1 e2 e3
 subst e1
 rcases h with h0 | ⟨g, off, rfl, hg, h⟩
 ·
  subst h0; exact absurd hi (Nat.not_lt_zero _)
 obtain ⟨p, ⟨q0, q1, q2, q3, q4⟩, c0, c1, c2, c3, c4⟩ := h i hi
 obtain ⟨b1, d1, f1, _⟩ := id q1
 obtain ⟨b2, d2, f2, _⟩ := id q2
 rw [f1] at q1 c1
 rw [f2] at q2 c2
 rw [q0] at c0
 rw [q3] at c3
 rw [q4] at c4
 exact ⟨g, off, rfl, b1, d1, b2, d2, q1, q2, c0, c1, c2, c3, c4⟩

set_option maxRecDepth 100000 in
set_option maxHeartbeats 32000000 in
theorem texts_walk (s0 : ByteArray) (hs0 : s0.size ≤ 9223372036854775807) (w : World) :
  Calls Try.prog 3 #[.string s0] w fun e w' => e = .returned (.bool true) ∧ Chg (fun _ => False) w w' := by
 have hz : (s0.extract 0 (min (s0.size : Int) 2000).toNat).size ≤ 2000 := by simp; omega
 have i0 : (0 : Int) ≤ min (s0.size : Int) 2000 := by omega
 have i1 : min (s0.size : Int) 2000 ≤ (s0.size : Int) := by omega
 go_enter Try.func3, Try.ntmps3
 go_wp2_with fail
 generalize s0.extract 0 (min (s0.size : Int) 2000).toNat = S at *
 clear i0 i1
 have SZ := hide hz
 have TT := hide (fun w => text_any S (by have := SZ.out; omega) w)
 have OT := hide (fun w => rtext_any S (by have := SZ.out; omega) w)
 have KT := hide (text_ok S (by have := SZ.out; omega))
 clear hz
 generalize resS [] S (itemsS (lexT S) S 1000 [] 0) = RT at *
 obtain ⟨⟨t0, t1, t2, t3⟩, L⟩ := RT
 have evt : f4V (t0, t1, t2, t3) = .agg #[.int .i64 t0, .int .i64 t1, .int .i64 t2, .string t3] := rfl
 dsimp only at TT OT KT
 rw [evt] at TT OT
 clear evt
 try go_wp2_with fail
 refine (TT.out _).mono ?_
 rintro e wa1 ⟨⟨u, rfl, hu⟩, g⟩
 obtain ⟨a1, c1, rfl, _⟩ := id hu
 have GB := al wa1 (.cells #[.int .i64 t0, .int .i64 t1, .int .i64 t2, .string t3] 27)
 have BB := blk_new wa1 (.cells #[.int .i64 t0, .int .i64 t1, .int .i64 t2, .string t3] 27)
 obtain ⟨Q1, hQ⟩ : ∃ Q, wa1.heap.size = Q := ⟨_, rfl⟩
 rw [hQ] at BB
 have HQ1 := hide hQ
 have GG := g.trans GB
 have GW := GB
 have BQ1 := hide BB
 have NT1 := hide ((hu.chg GW (fun _ _ h => h)).up (Y := fun x => x < (wa1.alloc (.cells #[.int .i64 t0, .int .i64 t1, .int .i64 t2, .string t3] 27)).heap.size) (fun x hx => Nat.lt_of_lt_of_le hx.2 GW.size))
 have GM1 := hide GG
 clear hu g GB BB hQ GG GW TT
 go_wp2_with fail
 generalize wa1.alloc (.cells #[.int .i64 t0, .int .i64 t1, .int .i64 t2, .string t3] 27) = wb1 at *
 rw [HQ1.out]
 refine (OT.out _).mono ?_
 rintro e wa2 ⟨⟨u, rfl, hu⟩, g⟩
 obtain ⟨a2, c2, rfl, _⟩ := id hu
 have GB := al wa2 (.cells #[.int .i64 t0, .int .i64 t1, .int .i64 t2, .string t3] 33)
 have BB := blk_new wa2 (.cells #[.int .i64 t0, .int .i64 t1, .int .i64 t2, .string t3] 33)
 obtain ⟨Q2, hQ⟩ : ∃ Q, wa2.heap.size = Q := ⟨_, rfl⟩
 rw [hQ] at BB
 have HQ2 := hide hQ
 have GG := g.trans GB
 have GW := GB
 have BQ1 := hide (GG.blk BQ1.out)
 have NT1 := hide ((NT1.out.chg GG (fun _ _ h => h)).up (Y := fun x => x < (wa2.alloc (.cells #[.int .i64 t0, .int .i64 t1, .int .i64 t2, .string t3] 33)).heap.size) (fun x hx => Nat.lt_of_lt_of_le hx GG.size))
 have BQ2 := hide BB
 have NT2 := hide ((hu.chg GW (fun _ _ h => h)).up (Y := fun x => x < (wa2.alloc (.cells #[.int .i64 t0, .int .i64 t1, .int .i64 t2, .string t3] 33)).heap.size) (fun x hx => Nat.lt_of_lt_of_le hx.2 GW.size))
 have GM2 := hide (GM1.out.trans GG)
 clear hu g GB BB hQ GG GW OT
 go_wp2_with fail
 generalize wa2.alloc (.cells #[.int .i64 t0, .int .i64 t1, .int .i64 t2, .string t3] 33) = wb2 at *
 rw [HQ2.out]
 have q10 := blk_cell BQ1.out 0
 have q11 := blk_cell BQ1.out 1
 have q12 := blk_cell BQ1.out 2
 have q13 := blk_cell BQ1.out 3
 have q20 := blk_cell BQ2.out 0
 have q21 := blk_cell BQ2.out 1
 have q22 := blk_cell BQ2.out 2
 have q23 := blk_cell BQ2.out 3
 simp only [gets] at q10 q11 q12 q13 q20 q21 q22 q23
 have N1 := hide NT1.out
 have N2 := hide NT2.out
 have GM := hide GM2.out
 clear BQ1 HQ1 NT1 GM1 BQ2 HQ2 NT2 GM2
 refine wp_region_held_drew (S := (fun w' => w'.cell? ⟨Q1, 0, none⟩ = some (.int .i64 t0) ∧ w'.cell? ⟨Q1, 1, none⟩ = some (.int .i64 t1) ∧ w'.cell? ⟨Q1, 2, none⟩ = some (.int .i64 t2) ∧ w'.cell? ⟨Q1, 3, none⟩ = some (.string t3) ∧ w'.cell? ⟨Q2, 0, none⟩ = some (.int .i64 t0) ∧ w'.cell? ⟨Q2, 1, none⟩ = some (.int .i64 t1) ∧ w'.cell? ⟨Q2, 2, none⟩ = some (.int .i64 t2) ∧ w'.cell? ⟨Q2, 3, none⟩ = some (.string t3))) (by kernel_rfl) (by go_keep) (fun hHeld => ?_)
 refine rd1 0 (fun K hK => ?_)
 go_simp
 refine (known_any _).mono ?_
 rintro e wc1 ⟨rfl, g⟩
 have WG := (Chg.refl (fun _ => False) wb2).drew.trans g
 have q10_1 := WG.cell (fun h => h) q10
 have q11_1 := WG.cell (fun h => h) q11
 have q12_1 := WG.cell (fun h => h) q12
 have q13_1 := WG.cell (fun h => h) q13
 have q20_1 := WG.cell (fun h => h) q20
 have q21_1 := WG.cell (fun h => h) q21
 have q22_1 := WG.cell (fun h => h) q22
 have q23_1 := WG.cell (fun h => h) q23
 have N1_1 := hide ((N1.out.chg WG (fun _ _ h => h)).up (Y := fun x => x < wc1.heap.size) (fun x hx => Nat.lt_of_lt_of_le hx WG.size))
 have N2_1 := hide ((N2.out.chg WG (fun _ _ h => h)).up (Y := fun x => x < wc1.heap.size) (fun x hx => Nat.lt_of_lt_of_le hx WG.size))
 have GM_1 := hide (GM.out.trans WG)
 clear g WG q10 q11 q12 q13 q20 q21 q22 q23 N1 N2 GM
 try go_simp
 refine hK.out _ _ ⟨q10_1, q11_1, q12_1, q13_1, q20_1, q21_1, q22_1, q23_1⟩ (fun hHeld => ?_)
 clear hK K
 try simp only [Act.put, puts]
 first
  | (refine tku 1 ?_)
  | (refine tkl 1 ?_ ?_ ?_
     rotate_left
     (intro w hSw
      (try dsimp only at hSw)
      (go_simp <;> with_reducible rfl)))
 try simp only [Act.put, puts]
 first
  | (refine tku 2 ?_)
  | (refine tkl 2 ?_ ?_ ?_
     rotate_left
     (intro w hSw
      (try dsimp only at hSw)
      (go_simp <;> with_reducible rfl)))
 try simp only [Act.put, puts]
 first
  | (refine tku 3 ?_)
  | (refine tkl 3 ?_ ?_ ?_
     rotate_left
     (intro w hSw
      (try dsimp only at hSw)
      (go_simp <;> with_reducible rfl)))
 try simp only [Act.put, puts]
 first
  | (refine tku 5 ?_)
  | (refine tkl 5 ?_ ?_ ?_
     rotate_left
     (intro w hSw
      (try dsimp only at hSw)
      (go_simp <;> with_reducible rfl)))
 try simp only [Act.put, puts]
 refine rd1 4 (fun K hK => ?_)
 go_simp
 refine (fault_any t0 t1 t2 t3 _).mono ?_
 rintro e wc2 ⟨rfl, g⟩
 have WG := Chg.ofB g
 have q10_2 := WG.cell (fun h => h) q10_1
 have q11_2 := WG.cell (fun h => h) q11_1
 have q12_2 := WG.cell (fun h => h) q12_1
 have q13_2 := WG.cell (fun h => h) q13_1
 have q20_2 := WG.cell (fun h => h) q20_1
 have q21_2 := WG.cell (fun h => h) q21_1
 have q22_2 := WG.cell (fun h => h) q22_1
 have q23_2 := WG.cell (fun h => h) q23_1
 have N1_2 := hide ((N1_1.out.chg WG (fun _ _ h => h)).up (Y := fun x => x < wc2.heap.size) (fun x hx => Nat.lt_of_lt_of_le hx WG.size))
 have N2_2 := hide ((N2_1.out.chg WG (fun _ _ h => h)).up (Y := fun x => x < wc2.heap.size) (fun x hx => Nat.lt_of_lt_of_le hx WG.size))
 have GM_2 := hide (GM_1.out.trans WG)
 clear g WG q10_1 q11_1 q12_1 q13_1 q20_1 q21_1 q22_1 q23_1 N1_1 N2_1 GM_1
 try go_simp
 refine hK.out _ _ ⟨q10_2, q11_2, q12_2, q13_2, q20_2, q21_2, q22_2, q23_2⟩ (fun hHeld => ?_)
 clear hK K
 try simp only [Act.put, puts]
 first
  | (refine tku 6 ?_)
  | (refine tkl 6 ?_ ?_ ?_
     rotate_left
     (intro w hSw
      (try dsimp only at hSw)
      (go_simp <;> with_reducible rfl)))
 try simp only [Act.put, puts]
 first
  | (refine tku 7 ?_)
  | (refine tkl 7 ?_ ?_ ?_
     rotate_left
     (intro w hSw
      (try dsimp only at hSw)
      (go_simp <;> with_reducible rfl)))
 try simp only [Act.put, puts]
 first
  | (refine tku 8 ?_)
  | (refine tkl 8 ?_ ?_ ?_
     rotate_left
     (intro w hSw
      (try dsimp only at hSw)
      (go_simp <;> with_reducible rfl)))
 try simp only [Act.put, puts]
 first
  | (refine tku 9 ?_)
  | (refine tkl 9 ?_ ?_ ?_
     rotate_left
     (intro w hSw
      (try dsimp only at hSw)
      (go_simp <;> with_reducible rfl)))
 try simp only [Act.put, puts]
 first
  | (refine tku 10 ?_)
  | (refine tkl 10 ?_ ?_ ?_
     rotate_left
     (intro w hSw
      (try dsimp only at hSw)
      (go_simp <;> with_reducible rfl)))
 try simp only [Act.put, puts]
 first
  | (refine tku 11 ?_)
  | (refine tkl 11 ?_ ?_ ?_
     rotate_left
     (intro w hSw
      (try dsimp only at hSw)
      (go_simp <;> with_reducible rfl)))
 try simp only [Act.put, puts]
 first
  | (refine tku 12 ?_)
  | (refine tkl 12 ?_ ?_ ?_
     rotate_left
     (intro w hSw
      (try dsimp only at hSw)
      (go_simp <;> with_reducible rfl)))
 try simp only [Act.put, puts]
 first
  | (refine tku 13 ?_)
  | (refine tkl 13 ?_ ?_ ?_
     rotate_left
     (intro w hSw
      (try dsimp only at hSw)
      (go_simp <;> with_reducible rfl)))
 try simp only [Act.put, puts]
 first
  | (refine tku 14 ?_)
  | (refine tkl 14 ?_ ?_ ?_
     rotate_left
     (intro w hSw
      (try dsimp only at hSw)
      (go_simp <;> with_reducible rfl)))
 try simp only [Act.put, puts]
 refine wpAnyH_done (by kernel_rfl) ?_ _
 clear q10_2 q11_2 q12_2 q13_2 q20_2 q21_2 q22_2 q23_2
 go_wp2_with fail
 go_loopw [7] (fun iv wr => ∃ (i : Nat), i ≤ L.length ∧ iv = .int .i64 i ∧ Hid (Chg (fun _ => False) wc2 wr)) (fun iv _ => L.length - (intOf iv).toNat)
 case atStart => exact ⟨0, Nat.zero_le _, rfl, hide (Chg.refl _ _)⟩
 case round =>
  obtain ⟨i, hi, rfl, GR⟩ := hrel
  by_cases hi2 : i < L.length
  ·
   have KX : Hid (Ok2 L[i]) := hide (KT.out.1 _ (List.getElem_mem hi2))
   have KL := KT.out.2
   obtain ⟨gl, ol, rfl, lb1, ld1, lb2, ld2, sl, tl, d0, d1, d2, d3, d4⟩ := iw_get (N1_2.out.chg GR.out (fun _ _ h => h)) i hi2
   obtain ⟨gm, om, rfl, mb1, md1, mb2, md2, sm, tm, e0, e1, e2, e3, e4⟩ := iw_get (N2_2.out.chg GR.out (fun _ _ h => h)) i hi2
   have SL := hide ((sl.chg ((Chg.refl (fun _ => False) wr).drew) (fun _ _ h => h)).up (Y := fun x => x < wr.drew.heap.size) (fun x hx => Nat.lt_of_lt_of_le hx GR.out.size))
   have SM := hide ((sm.chg ((Chg.refl (fun _ => False) wr).drew) (fun _ _ h => h)).up (Y := fun x => x < wr.drew.heap.size) (fun x hx => Nat.lt_of_lt_of_le hx GR.out.size))
   have TL := hide ((tl.chg ((Chg.refl (fun _ => False) wr).drew) (fun _ _ h => h)).up (Y := fun x => x < wr.drew.heap.size) (fun x hx => Nat.lt_of_lt_of_le hx GR.out.size))
   have TM := hide ((tm.chg ((Chg.refl (fun _ => False) wr).drew) (fun _ _ h => h)).up (Y := fun x => x < wr.drew.heap.size) (fun x hx => Nat.lt_of_lt_of_le hx GR.out.size))
   clear sl sm tl tm
   generalize L[i] = X at *
   obtain ⟨x0, x1, x2, x3, x4⟩ := X
   dsimp only at *
   have i1 : (0 : Int) ≤ (i : Int) := by omega
   have i2 : (i : Int) < (L.length : Int) := by omega
   go_wp2_with fail
   refine wp_region_held_drew (S := (fun w' => w'.cell? ⟨gl, ol + i * 5, none⟩ = some (.int .i64 x0) ∧ w'.cell? ⟨gl, ol + i * 5 + 1, none⟩ = some (.slice lb1 x1.length ld1) ∧ w'.cell? ⟨gl, ol + i * 5 + 2, none⟩ = some (.slice lb2 x2.len ld2) ∧ w'.cell? ⟨gl, ol + i * 5 + 3, none⟩ = some (.int .i64 x3) ∧ w'.cell? ⟨gl, ol + i * 5 + 4, none⟩ = some (.int .i64 x4) ∧ w'.cell? ⟨gm, om + i * 5, none⟩ = some (.int .i64 x0) ∧ w'.cell? ⟨gm, om + i * 5 + 1, none⟩ = some (.slice mb1 x1.length md1) ∧ w'.cell? ⟨gm, om + i * 5 + 2, none⟩ = some (.slice mb2 x2.len md2) ∧ w'.cell? ⟨gm, om + i * 5 + 3, none⟩ = some (.int .i64 x3) ∧ w'.cell? ⟨gm, om + i * 5 + 4, none⟩ = some (.int .i64 x4))) (by kernel_rfl) (by go_keep) (fun hHeld => ?_)
   first
    | (refine tku 0 ?_)
    | (refine tkl 0 ?_ ?_ ?_
       rotate_left
       (intro w hSw
        (try dsimp only at hSw)
        (go_simp <;> with_reducible rfl)))
   try simp only [Act.put, puts]
   first
    | (refine tku 1 ?_)
    | (refine tkl 1 ?_ ?_ ?_
       rotate_left
       (intro w hSw
        (try dsimp only at hSw)
        (go_simp <;> with_reducible rfl)))
   try simp only [Act.put, puts]
   first
    | (refine tku 2 ?_)
    | (refine tkl 2 ?_ ?_ ?_
       rotate_left
       (intro w hSw
        (try dsimp only at hSw)
        (go_simp <;> with_reducible rfl)))
   try simp only [Act.put, puts]
   first
    | (refine tku 3 ?_)
    | (refine tkl 3 ?_ ?_ ?_
       rotate_left
       (intro w hSw
        (try dsimp only at hSw)
        (go_simp <;> with_reducible rfl)))
   try simp only [Act.put, puts]
   first
    | (refine tku 5 ?_)
    | (refine tkl 5 ?_ ?_ ?_
       rotate_left
       (intro w hSw
        (try dsimp only at hSw)
        (go_simp <;> with_reducible rfl)))
   try simp only [Act.put, puts]
   first
    | (refine tku 6 ?_)
    | (refine tkl 6 ?_ ?_ ?_
       rotate_left
       (intro w hSw
        (try dsimp only at hSw)
        (go_simp <;> with_reducible rfl)))
   try simp only [Act.put, puts]
   first
    | (refine tku 7 ?_)
    | (refine tkl 7 ?_ ?_ ?_
       rotate_left
       (intro w hSw
        (try dsimp only at hSw)
        (go_simp <;> with_reducible rfl)))
   try simp only [Act.put, puts]
   first
    | (refine tku 8 ?_)
    | (refine tkl 8 ?_ ?_ ?_
       rotate_left
       (intro w hSw
        (try dsimp only at hSw)
        (go_simp <;> with_reducible rfl)))
   try simp only [Act.put, puts]
   refine rd1 4 (fun K hK => ?_)
   go_simp
   refine (pofi_any x2 KX.out.2.1 KX.out.2.2 x0 x3 x4 lb1 x1.length ld1 _ _ wr.drew (fun x hx => hx) TL.out).mono ?_
   rintro e w8 ⟨⟨v8, rfl, hv8⟩, g⟩
   obtain ⟨va, vc, rfl, _⟩ := id hv8
   have WG := (Chg.refl (fun _ => False) wr).drew.trans g
   have d0a := WG.cell (fun h => h) d0
   have d1a := WG.cell (fun h => h) d1
   have d2a := WG.cell (fun h => h) d2
   have d3a := WG.cell (fun h => h) d3
   have d4a := WG.cell (fun h => h) d4
   have e0a := WG.cell (fun h => h) e0
   have e1a := WG.cell (fun h => h) e1
   have e2a := WG.cell (fun h => h) e2
   have e3a := WG.cell (fun h => h) e3
   have e4a := WG.cell (fun h => h) e4
   have SL8 := hide ((SL.out.chg g (fun _ _ h => h)).up (Y := fun x => x < w8.heap.size) (fun x hx => Nat.lt_of_lt_of_le hx g.size))
   have SM8 := hide ((SM.out.chg g (fun _ _ h => h)).up (Y := fun x => x < w8.heap.size) (fun x hx => Nat.lt_of_lt_of_le hx g.size))
   have TM8 := hide ((TM.out.chg g (fun _ _ h => h)).up (Y := fun x => x < w8.heap.size) (fun x hx => Nat.lt_of_lt_of_le hx g.size))
   have TL8 := hide (hv8.up (Y := fun x => x < w8.heap.size) (fun x hx => hx.2))
   have G8 := hide (GR.out.trans WG)
   clear g WG hv8 SL SM TM TL
   try go_simp
   refine hK.out _ _ ⟨d0a, d1a, d2a, d3a, d4a, e0a, e1a, e2a, e3a, e4a⟩ (fun hHeld => ?_)
   clear hK K
   try simp only [Act.put, puts]
   refine rd1 9 (fun K hK => ?_)
   go_simp
   refine (plikei_all true x0 x0 x1 x1 x2 x2 x3 x3 x4 x4 KX.out.1 KX.out.1 KX.out.2.1 KX.out.2.2 KX.out.2.1 KX.out.2.2 _ _ _ _ _ w8 (fun x hx => hx) SL8.out SM8.out TL8.out TM8.out).mono ?_
   rintro e w9 ⟨rfl, g⟩
   rw [likeI_refl]
   have d0b := g.cell (fun h => h) d0a
   have d1b := g.cell (fun h => h) d1a
   have d2b := g.cell (fun h => h) d2a
   have d3b := g.cell (fun h => h) d3a
   have d4b := g.cell (fun h => h) d4a
   have e0b := g.cell (fun h => h) e0a
   have e1b := g.cell (fun h => h) e1a
   have e2b := g.cell (fun h => h) e2a
   have e3b := g.cell (fun h => h) e3a
   have e4b := g.cell (fun h => h) e4a
   have G9 := hide (G8.out.trans g)
   clear g
   try go_simp
   refine hK.out _ _ ⟨d0b, d1b, d2b, d3b, d4b, e0b, e1b, e2b, e3b, e4b⟩ (fun hHeld => ?_)
   clear hK K
   try simp only [Act.put, puts]
   first
    | (refine tku 10 ?_)
    | (refine tkl 10 ?_ ?_ ?_
       rotate_left
       (intro w hSw
        (try dsimp only at hSw)
        (go_simp <;> with_reducible rfl)))
   try simp only [Act.put, puts]
   refine wpAnyH_done (by kernel_rfl) ?_ _
   go_wp2_with fail
   go_roundw
   case rel => exact ⟨i + 1, by omega, by go_num, G9⟩
   case measure => simp [intOf]; omega
  ·
   have i2 : decide (i < L.length) = false := by simp [hi2]
   have GX := hide (GM_2.out.trans GR.out)
   clear hi2
   go_wp2_with fail
   go_ret
   exact ⟨rfl, GX.out⟩
theorem texts_below (s0 : ByteArray) (hs0 : s0.size ≤ maxLen) (w : World) : Calls Try.prog 3 #[.string s0] w fun e w' => e = .returned (.bool true) ∧ Below w.heap.size w w' :=
 (texts_walk s0 (by unfold maxLen at hs0; omega) w).mono fun e w' h => ⟨h.1, h.2.below (Nat.le_refl _) (fun _ h => h.elim)⟩
end Go.Proofs.Ytboeeaekhijboaa
