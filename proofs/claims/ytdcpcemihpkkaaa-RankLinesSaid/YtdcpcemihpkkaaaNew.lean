/- rank.New. -/
import Derived.Test.YtdcpcemihpkkaaaKinds
import Derived.Laws.EntriesVeiled
namespace Go.Proofs.Ytdcpcemihpkkaaa
open Go.RowKit Go.Maps
set_option linter.unusedVariables false
set_option linter.unusedSimpArgs false

/-- the pairs as places -/
def nats (rp : List (Int × Int)) : Pairs := rp.map fun p => (p.1.toNat, p.2.toNat)
/-- is a constant met twice? -/
def dupAt (rs : List (Int × Int)) (k : Nat) : Bool := (kindOf (rs.take k) (rs.getD k (0, 0)).1).isSome
def dup (rs : List (Int × Int)) : Bool := (List.range rs.length).any (dupAt rs)
/-- is one above itself? -/
def cyc (n : Nat) (ps : Pairs) : Bool := (List.range n).any fun c => above ps c c
def newCode (n : Int) (rp rs : List (Int × Int)) : Int :=
  if n < 0 ∨ n > 1000 then 1 else if rp.any (outP n) = true then 1 else if rs.any (outS n) = true then 1 else if dup rs = true then 4 else if cyc n.toNat (nats rp) = true then 8 else 0

/-- What New gives. -/
def NewPost (n : Int) (rp rs : List (Int × Int)) (w : World) (e : Ending) (w' : World) : Prop :=
  ((newCode n rp rs ≠ 0 ∧ e = .returned (.tuple #[.pointer none, .int .i64 (newCode n rp rs)])) ∨
   (newCode n rp rs = 0 ∧ ∃ b B sv, e = .returned (.tuple #[.pointer (some ⟨b, 0, none⟩), .int .i64 0]) ∧ w.heap.size ≤ b ∧ B < b ∧ Rs w' b n.toNat (nats rp) (.map (some B)) sv ∧ KM w' B rs.length (kindOf rs) ∧ IRow w' b sv rs)) ∧
  Chg (fun _ => False) w w'

theorem any_range_take {n : Nat} {f : Nat → Bool} {k : Nat} (h : ∀ i, i < k → f i = false) (hk : k < n) (hf : f k = true) : (List.range n).any f = true := by
  rw [List.any_eq_true]
  exact ⟨k, List.mem_range.2 hk, hf⟩
theorem any_range_none {n : Nat} {f : Nat → Bool} (h : ∀ i, i < n → f i = false) : (List.range n).any f = false := by
  rw [List.any_eq_false]
  intro i hi
  rw [h i (List.mem_range.1 hi)]
  decide

theorem outP_false {n : Int} {rp : List (Int × Int)} (h : rp.any (outP n) = false) : ∀ p ∈ rp, (0 ≤ p.1 ∧ p.1 < n) ∧ 0 ≤ p.2 ∧ p.2 < n := by
  intro p hp
  rw [List.any_eq_false] at h
  have h1 := h p hp
  unfold outP outB at h1
  simp only [Bool.or_eq_true, decide_eq_true_eq, not_or] at h1
  omega

theorem bd_nats {n : Int} {rp : List (Int × Int)} (h : rp.any (outP n) = false) : Bd (nats rp) n.toNat := by
  intro p hp
  obtain ⟨q, hq, rfl⟩ := List.mem_map.1 hp
  have := outP_false h q hq
  dsimp only
  omega

theorem prow_nats {w : World} {B : Nat} {v : Value} {n : Int} {rp : List (Int × Int)} (h : IRow w B v rp) (hp : rp.any (outP n) = false) : PRow w B v (nats rp) := by
  have hq := outP_false hp
  obtain ⟨a, cap, rfl, h1⟩ := h
  refine ⟨a, cap, by simp [nats], ?_⟩
  rcases h1 with h1 | ⟨g, off, e, h2, h3⟩
  · exact Or.inl (by rw [h1]; rfl)
  · refine Or.inr ⟨g, off, e, h2, fun i hi => ?_⟩
    have hi' : i < rp.length := by simpa [nats] using hi
    obtain ⟨c0, c1⟩ := h3 i hi'
    have := hq _ (List.getElem_mem hi')
    have e0 : ((nats rp)[i]'hi).1 = rp[i].1.toNat := by simp [nats]
    have e1 : ((nats rp)[i]'hi).2 = rp[i].2.toNat := by simp [nats]
    rw [e0, e1, Int.toNat_of_nonneg this.1.1, Int.toNat_of_nonneg this.2.1]
    exact ⟨c0, c1⟩

/-- A row of cells lies not in a map's block. -/
theorem IRow.chgM {w w' : World} {B M m : Nat} {v : Value} {l : List (Int × Int)} {f : Int → Option Int} (h : IRow w B v l) (hk : KM w M m f) (g : Chg (fun x => x = M) w w') : IRow w' B v l := by
  obtain ⟨D, ⟨es, clock, hb, _⟩, _⟩ := hk
  obtain ⟨a, cap, e, h1⟩ := h
  refine ⟨a, cap, e, ?_⟩
  rcases h1 with h1 | ⟨g1, off, e1, h2, h3⟩
  · exact Or.inl h1
  · have hne : ∀ i (h : i < l.length), ¬ g1 = M := fun i hi e => by
      have := (h3 i hi).1
      subst e
      simp [World.cell?, hb] at this
    exact Or.inr ⟨g1, off, e1, h2, fun i hi => ⟨g.cell (hne i hi) (h3 i hi).1, g.cell (hne i hi) (h3 i hi).2⟩⟩

/-- A rank's block as New makes it. -/
abbrev rankObj (n : Int) (pv sv : Value) (M : Nat) : Obj := .cells #[.int .i64 n, pv, .map (some M), .int .u32 0, .int .i32 0, .int .u32 0, .slice none 0 0, .int .i64 0, sv] 74

theorem made_rank {X : World} {n : Int} {pv sv : Value} {rp rs : List (Int × Int)} {Bp Bs M : Nat} (hp : IRow X Bp pv rp) (hbp : Bp ≤ X.heap.size) (hs : IRow X Bs sv rs) (hbs : Bs ≤ X.heap.size) (hk : KM X M 0 (fun _ => none)) :
    Rk (X.alloc (rankObj n pv sv M)) X.heap.size n pv (.map (some M)) 0 0 (.slice none 0 0) 0 sv ∧ IRow (X.alloc (rankObj n pv sv M)) X.heap.size pv rp ∧ IRow (X.alloc (rankObj n pv sv M)) X.heap.size sv rs ∧
      KM (X.alloc (rankObj n pv sv M)) M 0 (fun _ => none) ∧ M < X.heap.size ∧ Chg (fun _ => False) X (X.alloc (rankObj n pv sv M)) :=
  ⟨blk_new X _, (hp.up hbp).chg (al _ _) (fun _ _ h => h), (hs.up hbs).chg (al _ _) (fun _ _ h => h), hk.chg (al _ _) (fun h => h), hk.lt, al _ _⟩

set_option maxRecDepth 100000 in
set_option maxHeartbeats 16000000 in
theorem new_any (n : Int) (pv sv : Value) (rp rs : List (Int × Int)) (hlp : rp.length ≤ 1000) (hls : rs.length ≤ 1000) (hin : ∀ s ∈ rs, In64 s.1 ∧ In64 s.2) (Bi : Nat) (w : World) (hBi : Bi ≤ w.heap.size) (hp : IRow w Bi pv rp) (hs : IRow w Bi sv rs) :
    Calls Try.prog 24 #[.int .i64 n, pv, sv] w (NewPost n rp rs w) := by
  have hmf : ∀ (fn : Fn) (first cap : Array Value) (w : World), (Instr.makeFunc fn first cap).run Try.prog w = .ok (.func fn first cap) w := fun _ _ _ _ => rfl
  have hmm := @run_makeMap Try.prog
  have HP := hide hp
  have HS := hide hs
  have HI := hide hin
  have C0 := hide (Chg.refl (fun _ => False) w)
  obtain ⟨pa, pc, rfl, hx⟩ := hp
  obtain ⟨sa, sc, rfl, hy⟩ := hs
  have HY := hide hy
  clear hx hy hin
  obtain ⟨code, hcode⟩ : ∃ code, newCode n rp rs = code := ⟨_, rfl⟩
  have HC := hide hcode
  by_cases h1 : n < 0
  · have e : newCode n rp rs = 1 := by unfold newCode; rw [if_pos (Or.inl h1)]
    have q1 : decide (n < 0) = true := by simp; omega
    clear hcode hmm
    have F : Hid (NewPost n rp rs w (.returned (.tuple #[.pointer none, .int .i64 1])) ((w.alloc (.cells #[.int .i64 n] 3)).alloc (.cells #[.func (.func 31) #[] #[.pointer (some ⟨w.heap.size, 0, none⟩)]] 78))) := hide ⟨Or.inl ⟨by rw [e]; decide, by rw [e]⟩, (al _ _).trans (al _ _)⟩
    clear e HC
    go_enter Try.func24, Try.ntmps24
    go_wp2_with fail
    go_ret2
    exact F.out
  · have q1 : decide (n < 0) = false := by simp; omega
    by_cases h2 : n > 1000
    · have e : newCode n rp rs = 1 := by unfold newCode; rw [if_pos (Or.inr h2)]
      have q2 : decide (n > 1000) = true := by simp; omega
      have q3 : decide (1000 < n) = true := by simp; omega
      have F : Hid (NewPost n rp rs w (.returned (.tuple #[.pointer none, .int .i64 1])) ((w.alloc (.cells #[.int .i64 n] 3)).alloc (.cells #[.func (.func 31) #[] #[.pointer (some ⟨w.heap.size, 0, none⟩)]] 78))) := hide ⟨Or.inl ⟨by rw [e]; decide, by rw [e]⟩, (al _ _).trans (al _ _)⟩
      clear hcode hmm e HC
      go_enter Try.func24, Try.ntmps24
      go_wp2_with fail
      go_ret2
      exact F.out
    · have q2 : decide (n > 1000) = false := by simp; omega
      have q3 : decide (1000 < n) = false := by simp; omega
      have hn12 : ¬ (n < 0 ∨ n > 1000) := by omega
      obtain ⟨N, rfl⟩ : ∃ N : Nat, n = (N : Int) := ⟨n.toNat, by omega⟩
      have hN : N ≤ 1000 := by omega
      have hNt : ((N : Int)).toNat = N := by omega
      have g1 := (al w (.cells #[.int .i64 (N : Int)] 3)).trans (al _ (.cells #[.func (.func 31) #[] #[.pointer (some ⟨w.heap.size, 0, none⟩)]] 78))
      have ca : ((w.alloc (.cells #[.int .i64 (N : Int)] 3)).alloc (.cells #[.func (.func 31) #[] #[.pointer (some ⟨w.heap.size, 0, none⟩)]] 78)).cell? ⟨w.heap.size, 0, none⟩ = some (.int .i64 (N : Int)) := (al _ _).cell (fun h => h) (blk_cell (blk_new w _) 0)
      have cf : ((w.alloc (.cells #[.int .i64 (N : Int)] 3)).alloc (.cells #[.func (.func 31) #[] #[.pointer (some ⟨w.heap.size, 0, none⟩)]] 78)).cell? ⟨w.heap.size + 1, 0, none⟩ = some (.func (.func 31) #[] #[.pointer (some ⟨w.heap.size, 0, none⟩)]) := by
        have h := blk_cell (blk_new (w.alloc (.cells #[.int .i64 (N : Int)] 3)) (.cells #[.func (.func 31) #[] #[.pointer (some ⟨w.heap.size, 0, none⟩)]] 78)) 0
        have e : (w.alloc (.cells #[.int .i64 (N : Int)] 3)).heap.size = w.heap.size + 1 := by simp
        rw [e] at h
        exact h
      have hp1 := HP.out.chg g1 (fun _ _ h => h)
      have cp := hide (has_pairs (N : Int) _ rp (by omega) Bi w.heap.size (w.heap.size + 1) _ ca cf hp1)
      have CA := hide ca
      have CF := hide cf
      have G1 := hide g1
      have HN := hide hn12
      clear hcode g1 ca cf hp1 hn12
      go_enter Try.func24, Try.ntmps24
      go_wp2_with fail
      obtain ⟨w1, hw1⟩ : ∃ w1, (w.alloc (.cells #[.int .i64 (N : Int)] 3)).alloc (.cells #[.func (.func 31) #[] #[.pointer (some ⟨w.heap.size, 0, none⟩)]] 78) = w1 := ⟨_, rfl⟩
      rw [hw1] at G1 CA CF cp ⊢
      clear hw1
      obtain ⟨A, hA⟩ : ∃ A, w.heap.size = A := ⟨_, rfl⟩
      rw [hA] at CA CF cp ⊢
      cases hpo : rp.any (outP (N : Int))
      · rw [hpo] at cp
        have HPO := hide hpo
        clear hpo
        refine cp.out.mono ?_
        rintro e w2 ⟨rfl, g2⟩
        have G2 := hide (G1.out.trans g2)
        have ca2 := g2.cell (fun h => h) CA.out
        have cf2 := g2.cell (fun h => h) CF.out
        have CA2 := hide ca2
        have CF2 := hide cf2
        have cs := hide (has_stats (N : Int) _ rs (by omega) Bi A (A + 1) w2 ca2 cf2 (HS.out.chg G2.out (fun _ _ h => h)))
        clear g2 ca2 cf2 cp CA CF G1
        go_wp2_with fail
        cases hso : rs.any (outS (N : Int))
        · rw [hso] at cs
          have HSO := hide hso
          clear hso
          refine cs.out.mono ?_
          rintro e w3 ⟨rfl, g3⟩
          have G3 := hide (G2.out.trans g3)
          have ca3 := g3.cell (fun h => h) CA2.out
          have q5 : decide ((rp.length : Int) > 1000) = false := by simp; omega
          have q6 : decide (1000 < (rp.length : Int)) = false := by simp; omega
          have q7 : decide (1000 < rp.length) = false := by simp; omega
          clear g3 cs CF2 G2 CA2
          go_wp2_with fail
          have c36 := hide (fun w' (g : Chg (fun _ => False) w3 w') => clone_pairs_any _ rp (by omega) Bi w' ((HP.out.chg G3.out (fun _ _ h => h)).chg g (fun _ _ h => h)))
          have c37 := hide (fun w' (g : Chg (fun _ => False) w3 w') => clone_stats_any _ rs (by omega) Bi w' ((HS.out.chg G3.out (fun _ _ h => h)).chg g (fun _ _ h => h)))
          have la3 : A < w3.heap.size := World.block_lt_of_cell? _ _ ca3
          have cA0 : ∀ o, (w3.drew.alloc o).cell? ⟨A, 0, none⟩ = some (.int .i64 (N : Int)) := fun o => (al _ o).cell (fun h => h) ca3
          go_region_held3 (fun w' => w'.cell? ⟨A, 0, none⟩ = some (.int .i64 (N : Int)))
            (go_keep)
            (first
              | (go_at_call 36; first | (refine (c36.out w3.drew (Chg.refl _ _).drew).mono ?_) | (refine (c36.out _ ((Chg.refl _ _).drew.alloc _)).mono ?_)
                 rintro e w5 ⟨⟨pv5, rfl, r5⟩, g5⟩
                 obtain ⟨pa5, pc5, rfl, hz5⟩ := id r5
                 clear hz5
                 first | (have d5 : w5.cell? ⟨A, 0, none⟩ = some (.int .i64 (N : Int)) := g5.cell (fun h => h) ca3) | (have d5 : w5.cell? ⟨A, 0, none⟩ = some (.int .i64 (N : Int)) := g5.cell (fun h => h) (cA0 _))
                 first | (have GG5 : Hid (Chg (fun _ => False) w3 w5) := hide ((Chg.refl _ _).drew.trans g5)) | (have GG5 : Hid (Chg (fun _ => False) w3 w5) := hide (((Chg.refl _ _).drew.alloc _).trans g5))
                 first | (have KM5 := hide ((KM.made w3.drew).chg g5 (fun h => h))) | skip
                 have d5a : ∀ o, (w5.alloc o).cell? ⟨A, 0, none⟩ = some (.int .i64 (N : Int)) := fun o => (al _ o).cell (fun h => h) d5
                 have R5 := hide r5)
              | (go_at_call 37; first | (refine (c37.out w5 GG5.out).mono ?_) | (refine (c37.out _ (GG5.out.trans (al _ _))).mono ?_)
                 rintro e w6 ⟨⟨sv6, rfl, r6⟩, g6⟩
                 obtain ⟨sa6, sc6, rfl, hz6⟩ := id r6
                 clear hz6
                 first | (have d6 : w6.cell? ⟨A, 0, none⟩ = some (.int .i64 (N : Int)) := g6.cell (fun h => h) d5) | (have d6 : w6.cell? ⟨A, 0, none⟩ = some (.int .i64 (N : Int)) := g6.cell (fun h => h) (d5a _))
                 first | (have GG6 : Hid (Chg (fun _ => False) w3 w6) := hide (GG5.out.trans g6)) | (have GG6 : Hid (Chg (fun _ => False) w3 w6) := hide (GG5.out.trans ((al _ _).trans g6)))
                 first | (have R56 : Hid (IRow w6 w5.heap.size (.slice pa5 rp.length pc5) rp) := hide (R5.out.chg g6 (fun _ _ h => h))) | (have R56 : Hid (IRow w6 w5.heap.size (.slice pa5 rp.length pc5) rp) := hide (R5.out.chg ((al _ _).trans g6) (fun _ _ h => h)))
                 first | (have S56 : Hid (w5.heap.size ≤ w6.heap.size) := hide g6.size) | (have S56 : Hid (w5.heap.size ≤ w6.heap.size) := hide ((al _ _).trans g6).size)
                 first | (have KM6 := hide (KM5.out.chg g6 (fun h => h))) | (have KM6 := hide ((KM.made w5).chg g6 (fun h => h))) | skip
                 have d6a : ∀ o, (w6.alloc o).cell? ⟨A, 0, none⟩ = some (.int .i64 (N : Int)) := fun o => (al _ o).cell (fun h => h) d6
                 have d6b : ∀ o o', ((w6.alloc o).alloc o').cell? ⟨A, 0, none⟩ = some (.int .i64 (N : Int)) := fun o o' => (al _ o').cell (fun h => h) (d6a o)
                 have R6 := hide r6))
          all_goals
            first
            | (have mr := made_rank (n := (N : Int)) (M := w5.heap.size) R56.out S56.out R6.out (Nat.le_refl _) KM6.out
               have hb0 := (G3.out.trans GG6.out).size
               have hm0 := (G3.out.trans GG5.out).size
               have lAM : A < w5.heap.size := Nat.lt_of_lt_of_le la3 GG5.out.size
               have GW0 := G3.out.trans (GG6.out.trans mr.2.2.2.2.2)
               have caW := (al w6 (rankObj (N : Int) (.slice pa5 rp.length pc5) (.slice sa6 rs.length sc6) w5.heap.size)).cell (fun h => h) d6
               dsimp only [rankObj] at mr GW0 caW
               generalize w6.alloc (Obj.cells #[Value.int IntKind.i64 (N : Int), Value.slice pa5 rp.length pc5, Value.map (some w5.heap.size), Value.int IntKind.u32 0, Value.int IntKind.i32 0, Value.int IntKind.u32 0, Value.slice none 0 0, Value.int IntKind.i64 0, Value.slice sa6 rs.length sc6] 74) = W at *
               generalize w6.heap.size = b at *
               generalize w5.heap.size = M at *)
            | (have mr := made_rank (n := (N : Int)) (M := w3.heap.size) R56.out S56.out R6.out (Nat.le_refl _) KM6.out
               have hb0 := (G3.out.trans GG6.out).size
               have hm0 := G3.out.size
               have lAM : A < w3.heap.size := la3
               have GW0 := G3.out.trans (GG6.out.trans mr.2.2.2.2.2)
               have caW := (al w6 (rankObj (N : Int) (.slice pa5 rp.length pc5) (.slice sa6 rs.length sc6) w3.heap.size)).cell (fun h => h) d6
               dsimp only [rankObj] at mr GW0 caW
               generalize w6.alloc (Obj.cells #[Value.int IntKind.i64 (N : Int), Value.slice pa5 rp.length pc5, Value.map (some w3.heap.size), Value.int IntKind.u32 0, Value.int IntKind.i32 0, Value.int IntKind.u32 0, Value.slice none 0 0, Value.int IntKind.i64 0, Value.slice sa6 rs.length sc6] 74) = W at *
               generalize w6.heap.size = b at *
               generalize w3.heap.size = M at *)
            | (have mr := made_rank (X := w6.alloc (.map #[] 0)) (n := (N : Int)) (M := w6.heap.size) (R56.out.chg (al w6 (.map #[] 0)) (fun _ _ h => h)) (Nat.le_trans S56.out (al w6 (.map #[] 0)).size) (R6.out.chg (al w6 (.map #[] 0)) (fun _ _ h => h)) (al w6 (.map #[] 0)).size (KM.made w6)
               have hb0 : w.heap.size ≤ w6.heap.size + 1 := Nat.le_trans (G3.out.trans GG6.out).size (Nat.le_succ _)
               have hm0 := (G3.out.trans GG6.out).size
               have lAM : A < w6.heap.size := Nat.lt_of_lt_of_le la3 GG6.out.size
               have GW0 := G3.out.trans (GG6.out.trans ((al w6 (.map #[] 0)).trans mr.2.2.2.2.2))
               have caW := d6b (.map #[] 0) (rankObj (N : Int) (.slice pa5 rp.length pc5) (.slice sa6 rs.length sc6) w6.heap.size)
               have esz : (w6.alloc (.map #[] 0)).heap.size = w6.heap.size + 1 := by simp
               dsimp only [rankObj] at mr GW0 caW
               rw [esz] at mr
               generalize (w6.alloc (Obj.map #[] 0)).alloc (Obj.cells #[Value.int IntKind.i64 (N : Int), Value.slice pa5 rp.length pc5, Value.map (some w6.heap.size), Value.int IntKind.u32 0, Value.int IntKind.i32 0, Value.int IntKind.u32 0, Value.slice none 0 0, Value.int IntKind.i64 0, Value.slice sa6 rs.length sc6] 74) = W at *
               generalize w6.heap.size + 1 = b at *
               generalize w6.heap.size = M at *)
          all_goals
            obtain ⟨mr1, mr2, mr3, mr4, lM, mr6⟩ := mr
            have MR := hide mr1
            have PW := hide mr2
            have SW := hide mr3
            have KW := hide mr4
            have GW := hide GW0
            clear mr1 mr2 mr3 mr4 mr6 GW0 ca3 cA0 c36 c37 R56 S56 R6 R5 d5 d6 d5a d6a d6b GG5 GG6 g5 g6 r5 r6 G3 hmm hmf
            go_wp2_with fail
          all_goals
            go_loopw [45] (fun iv wr => ∃ k : Nat, k ≤ rs.length ∧ iv = .int .i64 k ∧ Hid (∀ i, i < k → dupAt rs i = false) ∧ Hid (KM wr M k (kindOf (rs.take k))) ∧ Hid (Chg (fun x => x = M) W wr)) (fun iv _ => rs.length - (intOf iv).toNat)
            case atStart => exact ⟨0, Nat.zero_le _, rfl, hide (fun i hi => absurd hi (Nat.not_lt_zero _)), KW, Chg.refl _ _⟩
            case round =>
              obtain ⟨k, hk, rfl, hD, hK, hC⟩ := hrel
              by_cases hlt : k < rs.length
              · rcases HY.out with h0 | ⟨sg, so, rfl, hsg, hsc⟩
                · rw [h0] at hlt; exact absurd hlt (Nat.not_lt_zero _)
                obtain ⟨d0, d1⟩ := hsc k hlt
                have GG := GW.out.none.trans hC.out
                have nSg : ¬ sg = M := by omega
                have x0 := GG.cell nSg d0
                have x1 := GG.cell nSg d1
                have hik := HI.out _ (List.getElem_mem hlt)
                have hdk : dupAt rs k = (kindOf (rs.take k) rs[k].1).isSome := by unfold dupAt; rw [List.getD_eq_getElem?_getD, List.getElem?_eq_getElem hlt]; rfl
                have hkt := hide (fun hno x => kindOf_take rs k hlt hno x)
                generalize rs[k] = sx at *
                obtain ⟨s0, s1⟩ := sx
                dsimp only at x0 x1 hik hdk hkt
                clear d0 d1 hsc
                have aD := blk_new wr (.cells #[.int .i64 s0, .int .i64 s1] 52)
                have MD := hide ((MR.out.chg hC.out (by omega)).chg (al wr (.cells #[.int .i64 s0, .int .i64 s1] 52)) (fun h => h))
                have KD := hide (hK.out.chg (al wr (.cells #[.int .i64 s0, .int .i64 s1] 52)) (fun h => h))
                have CD := hide (hC.out.trans (al wr (.cells #[.int .i64 s0, .int .i64 s1] 52)).none)
                go_wp2_with fail
                generalize (wr.alloc (Obj.cells #[Value.int IntKind.i64 s0, Value.int IntKind.i64 s1] 52)) = W1 at *
                generalize wr.heap.size = D at *
                have y0 : W1.cell? ⟨D, 0, none⟩ = some (.int .i64 s0) := blk_cell aD 0
                have y1 : W1.cell? ⟨D, 1, none⟩ = some (.int .i64 s1) := blk_cell aD 1
                have y2 : W1.cell? ⟨b, 2, none⟩ = some (.map (some M)) := blk_cell MD.out 2
                have hok := fun n => (KD.out.chg (S := fun _ => False) ((Chg.refl _ W1).drewN n) (fun h => h)).ok hik.1
                go_quiet (fail)
                have MQ := hide (MD.out.chg (S := fun _ => False) ((Chg.refl _ W1).drewN nq) (fun h => h))
                have KQ := hide (KD.out.chg (S := fun _ => False) ((Chg.refl _ W1).drewN nq) (fun h => h))
                have CQ := hide (CD.out.drewN nq)
                have y0 : (W1.drewN nq).cell? ⟨D, 0, none⟩ = some (.int .i64 s0) := y0
                have y1 : (W1.drewN nq).cell? ⟨D, 1, none⟩ = some (.int .i64 s1) := y1
                have y2 : (W1.drewN nq).cell? ⟨b, 2, none⟩ = some (.map (some M)) := y2
                clear hok MD KD CD aD
                generalize W1.drewN nq = W2 at *
                cases hfd : (kindOf (rs.take k) s0)
                · rw [hfd] at hdk
                  have DK : Hid (∀ i, i < k + 1 → dupAt rs i = false) := hide (fun i hi => by
                    by_cases e : i = k
                    · subst e; exact hdk
                    · exact hD.out i (by omega))
                  obtain ⟨w', hrun, hK2, hC2⟩ := (KQ.out.chg (S := fun _ => False) (Chg.refl _ W2).drew (fun h => h)).put (by omega) hik.1 hik.2
                  have KN : Hid (KM w' M (k + 1) (kindOf (rs.take (k + 1)))) := hide (by
                    have e : kindOf (rs.take (k + 1)) = fun x => if x = s0 then some s1 else kindOf (rs.take k) x := by
                      funext x
                      exact hkt.out hfd x
                    rw [e]
                    exact hK2)
                  have CN := hide (CQ.out.drew.trans hC2)
                  clear hK2 hC2 hkt hdk
                  go_wp2_with fail
                  go_region
                  go_wp2_with fail
                  go_roundw
                  case rel => exact ⟨k + 1, by omega, by go_num, DK, KN, CN⟩
                  case measure => simp [intOf]; omega
                · rw [hfd] at hdk
                  have hdup : dup rs = true := any_range_take hD.out hlt hdk
                  have e : newCode (N : Int) rp rs = 4 := by
                    unfold newCode
                    rw [if_neg HN.out, if_neg (by rw [HPO.out]; decide), if_neg (by rw [HSO.out]; decide), if_pos hdup]
                  have F : Hid (NewPost (N : Int) rp rs w (.returned (.tuple #[.pointer none, .int .i64 4])) W2) := hide ⟨Or.inl ⟨by rw [e]; decide, by rw [e]⟩, (GW.out.none.trans CQ.out).mono (fun x hx h => by omega)⟩
                  clear e HC hkt hdk
                  go_wp2_with fail
                  go_ret2
                  exact F.out
              · have hkl : k = rs.length := by omega
                subst hkl
                have ca9 := hC.out.cell (show ¬ A = M by omega) caW
                go_wp2_with fail
                have hdup : dup rs = false := any_range_none hD.out
                have HDU := hide hdup
                have RS0 : Hid (Rs wr b N (nats rp) (.map (some M)) (.slice sa6 rs.length sc6)) := hide (Or.inl ⟨_, _, prow_nats (PW.out.chgM KW.out hC.out) HPO.out, MR.out.chg hC.out (by omega)⟩)
                have BD := hide (bd_nats HPO.out)
                rw [hNt] at BD
                have lps : (nats rp).length ≤ 1000000 := by simp [nats]; omega
                have K9 := hK
                have C9 : Hid (Chg (fun x => x = M) w wr) := hide (GW.out.none.trans hC.out)
                have SW9 := hide (SW.out.chgM KW.out hC.out)
                rw [List.take_length] at K9
                clear hdup hK hC hD ca9 hlt hk KW MR PW GW
                generalize wr = wz at *
                go_loopw [70] (fun iv wq => ∃ c : Nat, c ≤ N ∧ iv = .int .i64 c ∧ Hid (∀ i, i < c → above (nats rp) i i = false) ∧ Hid (Rs wq b N (nats rp) (.map (some M)) (.slice sa6 rs.length sc6)) ∧ Hid (Chg (fun x => x = b) wz wq)) (fun iv _ => N - (intOf iv).toNat)
                case atStart => exact ⟨0, Nat.zero_le _, rfl, hide (fun i hi => absurd hi (Nat.not_lt_zero _)), RS0, Chg.refl _ _⟩
                case round =>
                  obtain ⟨c, hc, rfl, hA2, hR, hC2⟩ := hrel
                  clear RS0
                  by_cases hlc : c < N
                  · have ab := hide (above_in b N hN (nats rp) lps BD.out _ _ c c hlc hlc _ hR.out)
                    have i0 : (0 : Int) ≤ (c : Int) := by omega
                    have i1 : (c : Int) < (N : Int) := by omega
                    cases hcc : above (nats rp) c c
                    · rw [hcc] at ab
                      have A3 : Hid (∀ i, i < c + 1 → above (nats rp) i i = false) := hide (fun i hi => by
                        by_cases e : i = c
                        · subst e; exact hcc
                        · exact hA2.out i (by omega))
                      clear hcc
                      go_wp2_with fail
                      refine ab.out.mono ?_
                      rintro e w8 ⟨rfl, r8, g8⟩
                      have R8 := hide r8
                      have C8 := hide (hC2.out.trans g8)
                      clear r8 g8 ab
                      go_wp2_with fail
                      go_roundw
                      case rel => exact ⟨c + 1, by omega, by go_num, A3, R8, C8⟩
                      case measure => simp [intOf]; omega
                    · rw [hcc] at ab
                      have hcy : cyc N (nats rp) = true := any_range_take hA2.out hlc hcc
                      have e8 : newCode (N : Int) rp rs = 8 := by
                        unfold newCode
                        rw [if_neg HN.out, if_neg (by rw [HPO.out]; decide), if_neg (by rw [HSO.out]; decide), if_neg (by rw [HDU.out]; decide), hNt, if_pos hcy]
                      have E8 := hide e8
                      clear hcc hcy e8
                      go_wp2_with fail
                      refine ab.out.mono ?_
                      rintro e w8 ⟨rfl, r8, g8⟩
                      have F : Hid (NewPost (N : Int) rp rs w (.returned (.tuple #[.pointer none, .int .i64 8])) w8) := hide ⟨Or.inl ⟨by rw [E8.out]; decide, by rw [E8.out]⟩, by
                        have h1 : Chg (fun x => w.heap.size ≤ x) w wz := C9.out.mono (fun x _ h => by omega)
                        have h2 : Chg (fun x => w.heap.size ≤ x) wz w8 := (hC2.out.trans g8).mono (fun x _ h => by omega)
                        exact (h1.trans h2).mono (fun x hx h => by omega)⟩
                      clear r8 g8 ab
                      go_wp2_with fail
                      go_ret2
                      exact F.out
                  · have hcN : c = N := by omega
                    subst hcN
                    have hcy : cyc c (nats rp) = false := any_range_none hA2.out
                    have e0 : newCode (c : Int) rp rs = 0 := by
                      unfold newCode
                      rw [if_neg HN.out, if_neg (by rw [HPO.out]; decide), if_neg (by rw [HSO.out]; decide), if_neg (by rw [HDU.out]; decide), hNt, if_neg (by rw [hcy]; decide)]
                    have F : Hid (NewPost (c : Int) rp rs w (.returned (.tuple #[.pointer (some ⟨b, 0, none⟩), .int .i64 0])) wr) := hide ⟨Or.inr ⟨e0, b, M, _, rfl, hb0, lM, by rw [hNt]; exact hR.out, K9.out.chg hC2.out (by omega), SW9.out.chg hC2.out (fun x hx e => by omega)⟩, by
                      have h1 : Chg (fun x => w.heap.size ≤ x) w wz := C9.out.mono (fun x _ h => by omega)
                      have h2 : Chg (fun x => w.heap.size ≤ x) wz wr := hC2.out.mono (fun x _ h => by omega)
                      exact (h1.trans h2).mono (fun x hx h => by omega)⟩
                    clear hcy e0
                    go_wp2_with fail
                    go_ret2
                    exact F.out
        · rw [hso] at cs
          have HSO := hide hso
          clear hso
          refine cs.out.mono ?_
          rintro e w3 ⟨rfl, g3⟩
          have e : newCode (N : Int) rp rs = 1 := by unfold newCode; rw [if_neg HN.out, if_neg (by rw [HPO.out]; decide), if_pos HSO.out]
          have F : Hid (NewPost (N : Int) rp rs w (.returned (.tuple #[.pointer none, .int .i64 1])) w3) := hide ⟨Or.inl ⟨by rw [e]; decide, by rw [e]⟩, G2.out.trans g3⟩
          clear e HC g3 cs
          go_wp2_with fail
          go_ret2
          exact F.out
      · rw [hpo] at cp
        have HPO := hide hpo
        clear hpo
        refine cp.out.mono ?_
        rintro e w2 ⟨rfl, g2⟩
        have e : newCode (N : Int) rp rs = 1 := by unfold newCode; rw [if_neg HN.out, if_pos HPO.out]
        have F : Hid (NewPost (N : Int) rp rs w (.returned (.tuple #[.pointer none, .int .i64 1])) w2) := hide ⟨Or.inl ⟨by rw [e]; decide, by rw [e]⟩, G1.out.trans g2⟩
        clear e HC g2 cp
        go_wp2_with fail
        go_ret2
        exact F.out
end Go.Proofs.Ytdcpcemihpkkaaa
