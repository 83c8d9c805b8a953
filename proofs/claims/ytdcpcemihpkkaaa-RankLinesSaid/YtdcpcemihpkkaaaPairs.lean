/- Pairs, over. -/
import Derived.Test.YtdcpcemihpkkaaaLists
import Derived.Deep.OwnRows
namespace Go.Proofs.Ytdcpcemihpkkaaa
open Go.RowKit Go.Maps
set_option linter.unusedVariables false
set_option linter.unusedSimpArgs false

theorem own_grownT {w w' : World} {base1 base2 : Nat} {T1 T2 : TypeId} {s1 s2 n1 n2 : Nat} {v1 v2 : Value} {xs1 xs2 : List Value} (h1 : w.ownsRow base1 T1 s1 v1 n1 xs1) (h2 : w.ownsRow base2 T2 s2 v2 n2 xs2) (hT : T1 ≠ T2) (hg : w.grownBy w' v2.ownBlock) : w'.ownsRow base1 T1 s1 v1 n1 xs1 := by
  obtain ⟨k1, k2⟩ := h1
  refine ⟨k1, ?_⟩
  rcases k2 with k2 | ⟨g, cap, cur, e1, h3, h4, h5⟩
  · exact Or.inl k2
  · refine Or.inr ⟨g, cap, cur, e1, h3, (hg.block g (blk_lt h4) (fun e => ?_)).trans h4, h5⟩
    rcases h2.2 with ⟨rfl, _⟩ | ⟨g2, cap2, cur2, rfl, _, h7, _⟩
    · cases e
    · have e' : g = g2 := by injection e
      subst e'
      rw [h4] at h7
      injection h7 with h7
      injection h7 with _ h8
      exact hT h8

theorem own_chgNo {w w' : World} {base : Nat} {T : TypeId} {size n : Nat} {v : Value} {xs : List Value} (h : w.ownsRow base T size v n xs) (hg : w.grownBy w' v.ownBlock) {S : Nat → Prop} (hS : ∀ x, base ≤ x → S x) : Chg S w w' :=
  (Chg.refl _ _).grown hg (fun r e => Or.inl (hS r (h.lt r e).1))

/-- all of which the first is above the second -/
def pairsF (n : Nat) (ps : Pairs) (k : Nat) : List (Int × Int) := (List.range k).flatMap fun (a : Nat) => (underF n ps (a : Int) n).map fun c => ((a : Int), c)
theorem pairsF_succ (n : Nat) (ps : Pairs) (k : Nat) : pairsF n ps (k + 1) = pairsF n ps k ++ (underF n ps (k : Int) n).map fun c => ((k : Int), c) := by
  unfold pairsF
  rw [List.range_succ, List.flatMap_append]
  simp
theorem pairsF_len (n : Nat) (ps : Pairs) (k : Nat) : (pairsF n ps k).length ≤ k * n := by
  induction k with
  | zero => simp [pairsF]
  | succ k ih =>
    rw [pairsF_succ, List.length_append, List.length_map]
    have := underF_len n ps (k : Int) n
    rw [Nat.succ_mul]
    omega

/-- An own row of pairs. -/
def PAcc (w : World) (base : Nat) (v : Value) (l : List (Int × Int)) : Prop := w.ownsRow base 43 2 v l.length (cells2 l)
def accF (n : Nat) (ps : Pairs) (k : Nat) (us : List Int) (j : Nat) : List (Int × Int) := pairsF n ps k ++ (us.take j).map fun c => ((k : Int), c)

set_option maxRecDepth 100000 in
set_option maxHeartbeats 8000000 in
theorem pairs_some (b n : Nat) (hn : n ≤ 1000) (ps : Pairs) (hps : ps.length ≤ 1000000) (hbd : Bd ps n) (mv sv : Value) (w : World) (h : Rs w b n ps mv sv) :
    Calls Try.prog 20 #[.pointer (some ⟨b, 0, none⟩)] w fun e w' => (∃ v, e = .returned v ∧ w'.ownsRow w.heap.size 43 2 v (pairsF n ps n).length (cells2 (pairsF n ps n))) ∧ Rs w' b n ps mv sv ∧ Chg (fun x => x = b) w w' := by
  obtain ⟨i0, hi0, hz0, hz1, hz2⟩ := info_parts info43
  have c0 := h.n
  have lb := h.lt
  have ln := hide (len_some b n w c0)
  have H := hide h
  have un := hide (fun w' (y : Int) h => under_some b n hn ps hps hbd mv sv y w' h)
  clear h c0
  go_enter Try.func20, Try.ntmps20
  go_wp2_with fail
  refine ln.out.mono ?_
  rintro e w1 ⟨rfl, rfl⟩
  go_wp2_with fail
  go_loopw [9, 3] (fun iv ov wr => ∃ k : Nat, k ≤ n ∧ iv = .int .i64 k ∧ Hid (wr.ownsRow w.heap.size 43 2 ov (pairsF n ps k).length (cells2 (pairsF n ps k))) ∧ Hid (Rs wr b n ps mv sv) ∧ Hid (Chg (fun x => x = b) w wr)) (fun iv _ _ => n - (intOf iv).toNat)
  case atStart => exact ⟨0, Nat.zero_le _, rfl, ⟨rfl, Or.inl ⟨rfl, rfl⟩⟩, H, Chg.refl _ _⟩
  case round =>
    obtain ⟨k, hk, rfl, hO, hR, hC⟩ := hrel
    by_cases hlt : k < n
    · have hu := hide (un.out wr (k : Int) hR.out)
      have hsucc := hide (pairsF_succ n ps k)
      have hpl := pairsF_len n ps k
      have hkn : k * n ≤ 1000 * 1000 := Nat.mul_le_mul (by omega) hn
      have hul := underF_len n ps (k : Int) n
      obtain ⟨us, hus⟩ : ∃ us, us = underF n ps (k : Int) n := ⟨_, rfl⟩
      rw [← hus] at hu hsucc hul
      go_wp2_with fail
      refine hu.out.mono ?_
      rintro e w2 ⟨⟨v1, rfl, o1⟩, r2, g2⟩
      have O1 := hide o1
      have II := ints_own o1
      obtain ⟨ua, uc, rfl, hrow⟩ := II
      clear hrow
      have O2 := hide (own_chg hO.out g2 (fun x hx e => by omega))
      have R2 := hide r2
      have C2 := hide (hC.out.trans g2)
      clear o1 r2 g2 hu hO hR hC hus
      generalize wr.heap.size = b1 at O1
      go_wp2_with fail
      go_loopw [16, 3] (fun jv ov wr2 => ∃ j : Nat, j ≤ us.length ∧ jv = .int .i64 j ∧ Hid (PAcc wr2 w.heap.size ov (accF n ps k us j)) ∧
        Hid (wr2.ownsRow b1 3 1 (.slice ua us.length uc) us.length (us.map (Value.int .i64))) ∧ Hid (Rs wr2 b n ps mv sv) ∧ Hid (Chg (fun x => x = b) w wr2)) (fun jv _ _ => us.length - (intOf jv).toNat)
      case atStart => exact ⟨0, Nat.zero_le _, rfl, by unfold Hid PAcc accF; simpa using O2.out, O1, R2, C2⟩
      case round =>
        clear O1 O2 R2 C2
        obtain ⟨j, hj, rfl, hO, hO1, hR, hC⟩ := hrel
        by_cases hlj : j < us.length
        · obtain ⟨a', c', e', hr'⟩ := ints_own hO1.out
          rcases hr' with h0 | ⟨g, off, e2, hg, hcell⟩
          · rw [h0] at hlj; exact absurd hlj (Nat.not_lt_zero _)
          subst e2
          injection e' with e3 _ e5
          subst e3
          subst e5
          have d0 := hcell j hlj
          have tk := List.take_succ_eq_append_getElem hlj
          have i2 : (0 : Int) ≤ (j : Int) := by omega
          have i3 : (j : Int) < (us.length : Int) := by omega
          generalize us[j] = y at *
          have hnx : Hid ((us.take (j + 1)).map (fun c => ((k : Int), c)) = (us.take j).map (fun c => ((k : Int), c)) ++ [((k : Int), y)]) := by unfold Hid; rw [tk, List.map_append]; rfl
          have hacc : (accF n ps k us j).length ≤ 1000 * 1000 + 1000 := by
            unfold accF
            rw [List.length_append, List.length_map, List.length_take]; omega
          obtain ⟨acc, hac⟩ : ∃ acc, acc = accF n ps k us j := ⟨_, rfl⟩
          have hnx2 : Hid (accF n ps k us (j + 1) = acc ++ [((k : Int), y)]) := by unfold Hid; rw [hac]; unfold accF; rw [hnx.out, List.append_assoc]
          rw [← hac] at hO hacc
          have hw2 : w.heap.size ≤ wr.heap.size := hC.out.size
          have hO' : wr.ownsRow w.heap.size 43 2 u3 acc.length (cells2 acc) := hO.out
          have O3 := hide (hO'.alloc (.cells #[.int .i64 (k : Int), .int .i64 y] 43))
          have P3 := hide (hO1.out.alloc (.cells #[.int .i64 (k : Int), .int .i64 y] 43))
          have NB := hide (World.news_of_block (cs := #[.int .i64 (k : Int), .int .i64 y]) (t := 43) (fr := (0, 0)) (heap_alloc_new wr _))
          have R2 := hide (hR.out.chg (al wr (.cells #[.int .i64 (k : Int), .int .i64 y] 43)) (fun _ _ h => h))
          have C3 := hide (hC.out.trans (al wr (.cells #[.int .i64 (k : Int), .int .i64 y] 43)).none)
          have hcl := cells2_len acc
          clear hO hO' hO1 hR hC hcell tk hac hnx
          go_wp2_with (at_builtin; refine wpList_append_own _ rfl _ _ 22 rfl w.heap.size 43 i0 (.agg #[.int .i64 0, .int .i64 0]) 2 16 Try.underlying22 hi0 hz0 hz1 hz2 rfl (by decide) _ acc.length (cells2 acc) rfl O3.out ⟨wr.heap.size, 0, none⟩ 1 1 [.int .i64 (k : Int), .int .i64 y] rfl rfl NB.out (by simp [Value.oneCell']) (by simp [maxLen]; omega) (by omega) (by simp; omega) ?_; intro v' w3 hown3 hgrow _)
          have R3 := hide (R2.out.grown O3.out hgrow ⟨by decide, by decide⟩ lb)
          have P4 := hide (own_grownT P3.out O3.out (by decide) hgrow)
          have C4 : Hid (Chg (fun x => x = b) w w3) := hide (by
            have h1 : Chg (fun x => x = b ∨ w.heap.size ≤ x) w w3 := (C3.out.mono (fun x _ h => Or.inl h)).trans (own_chgNo O3.out hgrow (fun x h => Or.inr h))
            exact h1.mono (fun x hx h => by omega))
          have O4 : Hid (PAcc w3 w.heap.size v' (acc ++ [((k : Int), y)])) := hide (by
            unfold PAcc
            rw [List.length_append, cells2_app]
            exact hown3)
          clear hown3 hgrow O3 P3 NB R2 C3
          go_wp2_with fail
          go_roundw
          case rel => exact ⟨j + 1, by omega, by go_num, by unfold Hid; rw [hnx2.out]; exact O4.out, P4, R3, C4⟩
          case measure => simp [intOf]; omega
        · have hjl : j = us.length := by omega
          subst hjl
          have O5 : Hid (wr.ownsRow w.heap.size 43 2 u3 (pairsF n ps (k + 1)).length (cells2 (pairsF n ps (k + 1)))) := hide (by
            rw [hsucc.out]
            have h := hO.out
            unfold PAcc accF at h
            rw [List.take_length] at h
            exact h)
          clear hO hO1
          go_wp2_with fail
          go_roundw
          case rel => exact ⟨k + 1, by omega, by go_num, O5, hR, hC⟩
          case measure => simp [intOf]; omega
    · have hkn : k = n := by omega
      subst hkn
      go_wp2_with fail
      go_ret
      exact ⟨⟨_, rfl, hO.out⟩, hR.out, hC.out⟩
end Go.Proofs.Ytdcpcemihpkkaaa
