/- The walk of RankRules. -/
import Derived.Test.YtdcpcemihpkkaaaFacts
import Derived.Test.YtdcpcemihpkkaaaOpens
namespace Go.Proofs.Ytdcpcemihpkkaaa
open Go.RowKit Go.Maps
set_option linter.unusedVariables false
set_option linter.unusedSimpArgs false

set_option maxRecDepth 100000 in
set_option maxHeartbeats 16000000 in
theorem rules_walk (N a b c : Int) (pa sa : Option Addr) (pl pc sl sc : Nat) (rp rs : List (Int × Int)) (hpl : pl = rp.length) (hsl : sl = rs.length) (hpc : pl ≤ pc) (hsc : sl ≤ sc) (hpm : pc ≤ maxLen) (hsm : sc ≤ maxLen) (hin : ∀ s ∈ rs, In64 s.1 ∧ In64 s.2) (w : World)
    (hp : IRow w w.heap.size (.slice pa pl pc) rp) (hs : IRow w w.heap.size (.slice sa sl sc) rs) :
    Calls Try.prog 4 #[.agg #[.int .i64 N, .slice pa pl pc, .slice sa sl sc], .int .i64 a, .int .i64 b, .int .i64 c] w fun e w' => e = .returned (.bool true) ∧ Below w.heap.size w w' := by
  have C1 := hide (al w (.cells #[.int .i64 N, .slice pa pl pc, .slice sa sl sc] 25))
  have to := hide (to_any N pa sa pl pc sl sc rp rs hpl hsl hpc hsc hpm hsm hin _ ((hp.chg C1.out (fun _ _ h => h)).up C1.out.size) ((hs.chg C1.out (fun _ _ h => h)).up C1.out.size))
  have lp2 : (rp.take 40).length ≤ 40 := by rw [List.length_take]; omega
  obtain ⟨rp2, hrp⟩ : ∃ l, rp.take 40 = l := ⟨_, rfl⟩
  obtain ⟨rs2, hrs⟩ : ∃ l, rs.take 20 = l := ⟨_, rfl⟩
  rw [hrp, hrs] at to
  rw [hrp] at lp2
  have lnp : Hid ((nats rp2).length ≤ 1000000) := hide (by unfold nats; rw [List.length_map]; omega)
  have kn := hide known_any
  clear hp hs hin hpl hsl hpc hsc hpm hsm hrp hrs lp2
  go_enter Try.func4, Try.ntmps4
  go_wp2_with fail
  refine to.out.mono ?_
  rintro e w1 ⟨pv, sv, j1, j2, g1, h⟩
  have C2 := hide (C1.out.trans g1)
  obtain ⟨ya, yc, rfl, _⟩ := j1
  obtain ⟨za, zc, rfl, _⟩ := j2
  clear g1 to C1
  obtain ⟨code, hcode⟩ : ∃ code, newCode N rp2 rs2 = code := ⟨_, rfl⟩
  have HC := hide hcode
  rw [hcode] at h
  clear hcode
  rcases h with ⟨h6, rfl⟩ | ⟨h6, B, M, su, rfl, hb, hB, hR, hK, hI⟩
  · have q0 : (code != 0) = true := by simpa using h6
    have C3 := hide (C2.out.trans (al w1 (.cells #[.int .i64 N, .slice ya rp2.length yc, .slice za rs2.length zc] 25)))
    go_wp2_with fail
    refine (kn.out _).mono ?_
    rintro e w2 ⟨rfl, g2⟩
    have C4 := hide (C3.out.trans g2)
    clear g2 C3
    go_wp2_with fail
    go_ret
    exact ⟨rfl, C4.out.below (Nat.le_refl _) (fun _ h => h.elim)⟩
  · rw [h6] at HC
    obtain ⟨n0, n1, n2, n3, n4, n5⟩ := newCode_zero HC.out
    have bd := hide (bd_nats n2)
    have irr := hide (abv_irr n5 a)
    have tr := hide (fun h1 h2 => abv_trans (n := N.toNat) (ps := nats rp2) (x := a) (y := b) (z := c) h1 h2)
    have an := hide (fun h1 => abv_anti n5 (x := a) (y := b) h1)
    have ab := hide (fun (x y : Int) (w : World) (h : Rs w B N.toNat (nats rp2) (.map (some M)) su) => above_any B N.toNat (by omega) (nats rp2) lnp.out bd.out (.map (some M)) su x y w h)
    have C3 := hide (C2.out.trans (al w1 (.cells #[.int .i64 N, .slice ya rp2.length yc, .slice za rs2.length zc] 25)))
    have R1 := hide (hR.chg (al w1 (.cells #[.int .i64 N, .slice ya rp2.length yc, .slice za rs2.length zc] 25)) (fun _ _ h => h))
    have HB : Hid (w.heap.size ≤ B) := hide (Nat.le_trans (al w _).size hb)
    clear hR hK hI hb hB C2 n2 n3 n4 n5 HC n0 n1 lnp bd
    go_wp2_with fail
    refine (kn.out _).mono ?_
    rintro e w2 ⟨rfl, g2⟩
    have C4 : Hid (Chg (fun x => x = B) w w2) := hide (C3.out.trans g2).none
    have R2 := hide (R1.out.chg g2 (fun _ _ h => h))
    clear g2 C3 R1
    go_wp2_with fail
    have k1 := hide (ab.out a a _ R2.out)
    rw [irr.out] at k1
    refine k1.out.mono ?_
    rintro e w3 ⟨rfl, r3, g3⟩
    have R3 := hide r3
    have C5 := hide (C4.out.trans g3)
    clear r3 g3 R2 C4 k1
    have k2 := hide (ab.out a b _ R3.out)
    cases h1 : abv N.toNat (nats rp2) a b
    · rw [h1] at k2
      clear tr an
      go_wp2_with fail
      refine k2.out.mono ?_
      rintro e w4 ⟨rfl, r4, g4⟩
      have R4 := hide r4
      have C6 := hide (C5.out.trans g4)
      clear r4 g4 R3 C5 k2
      have k3 := hide (ab.out a b _ R4.out)
      rw [h1] at k3
      clear h1
      go_wp2_with fail
      refine k3.out.mono ?_
      rintro e w5 ⟨rfl, r5, g5⟩
      have C7 := hide (C6.out.trans g5)
      clear r5 g5 R4 C6 k3
      go_wp2_with fail
      go_ret
      exact ⟨rfl, C7.out.below (Nat.le_refl _) (fun k hk => by rw [hk]; exact HB.out)⟩
    · rw [h1] at k2
      have h2 := an.out h1
      have tr1 := hide (tr.out h1)
      clear tr an
      go_wp2_with fail
      refine k2.out.mono ?_
      rintro e w4 ⟨rfl, r4, g4⟩
      have R4 := hide r4
      have C6 := hide (C5.out.trans g4)
      clear r4 g4 R3 C5 k2
      have k3 := hide (ab.out b c _ R4.out)
      cases h3 : abv N.toNat (nats rp2) b c
      · rw [h3] at k3
        clear h3 tr1
        go_wp2_with fail
        refine k3.out.mono ?_
        rintro e w5 ⟨rfl, r5, g5⟩
        have R5 := hide r5
        have C7 := hide (C6.out.trans g5)
        clear r5 g5 R4 C6 k3
        have k4 := hide (ab.out a b _ R5.out)
        have k5 := hide (fun w h => ab.out b a w h)
        rw [h1] at k4
        rw [h2] at k5
        clear h1 h2
        go_wp2_with fail
        refine k4.out.mono ?_
        rintro e w6 ⟨rfl, r6, g6⟩
        have R6 := hide r6
        have C8 := hide (C7.out.trans g6)
        clear r6 g6 R5 C7 k4
        go_wp2_with fail
        refine (k5.out _ R6.out).mono ?_
        rintro e w7 ⟨rfl, r7, g7⟩
        have C9 := hide (C8.out.trans g7)
        clear r7 g7 R6 C8 k5
        go_wp2_with fail
        go_ret
        exact ⟨rfl, C9.out.below (Nat.le_refl _) (fun k hk => by rw [hk]; exact HB.out)⟩
      · rw [h3] at k3
        have h4 := tr1.out h3
        clear h3 tr1
        go_wp2_with fail
        refine k3.out.mono ?_
        rintro e w5 ⟨rfl, r5, g5⟩
        have R5 := hide r5
        have C7 := hide (C6.out.trans g5)
        clear r5 g5 R4 C6 k3
        have k6 := hide (ab.out a c _ R5.out)
        rw [h4] at k6
        clear h4
        go_wp2_with fail
        refine k6.out.mono ?_
        rintro e w5 ⟨rfl, r5, g5⟩
        have R5' := hide r5
        have C7' := hide (C7.out.trans g5)
        clear r5 g5 R5 C7 k6
        have k4 := hide (ab.out a b _ R5'.out)
        have k5 := hide (fun w h => ab.out b a w h)
        rw [h1] at k4
        rw [h2] at k5
        clear h1 h2
        go_wp2_with fail
        refine k4.out.mono ?_
        rintro e w6 ⟨rfl, r6, g6⟩
        have R6 := hide r6
        have C8 := hide (C7'.out.trans g6)
        clear r6 g6 R5' C7' k4
        go_wp2_with fail
        refine (k5.out _ R6.out).mono ?_
        rintro e w7 ⟨rfl, r7, g7⟩
        have C9 := hide (C8.out.trans g7)
        clear r7 g7 R6 C8 k5
        go_wp2_with fail
        go_ret
        exact ⟨rfl, C9.out.below (Nat.le_refl _) (fun k hk => by rw [hk]; exact HB.out)⟩
theorem rules_ref (W : World) (v : Value) (r : RefIn) (h : RefIs W v r) (a b c : Int) :
    Calls Try.prog 4 #[v, .int .i64 a, .int .i64 b, .int .i64 c] W fun e w' => e = .returned (.bool true) ∧ Below W.heap.size W w' := by
  obtain ⟨rfl, h0, ⟨p1, p2, p3, p4, p5⟩, ⟨s1, s2, s3, s4, s5⟩⟩ := h
  exact rules_walk r.N a b c r.pa r.sa r.pl r.pc r.sl r.sc r.rp r.rs p1 s1 p2 s2 p3 s3 s4 W p5 s5

end Go.Proofs.Ytdcpcemihpkkaaa
