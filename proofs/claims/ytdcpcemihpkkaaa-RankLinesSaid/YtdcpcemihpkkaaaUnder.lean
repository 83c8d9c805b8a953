/- Under, slices.Index, Like. -/
import Derived.Test.YtdcpcemihpkkaaaNew
namespace Go.Proofs.Ytdcpcemihpkkaaa
open Go.RowKit Go.Maps
set_option linter.unusedVariables false
set_option linter.unusedSimpArgs false

/-- A slice value that reads as these numbers, in a block below B. -/
def Ints (w : World) (B : Nat) (v : Value) (l : List Int) : Prop :=
  ∃ a cap, v = .slice a l.length cap ∧ (l = [] ∨ ∃ g off, a = some ⟨g, off, none⟩ ∧ g < B ∧ ∀ i (h : i < l.length), w.cell? ⟨g, off + i, none⟩ = some (.int .i64 (l[i]'h)))

theorem Ints.chg {w w' : World} {B : Nat} {v : Value} {l : List Int} (h : Ints w B v l) {S : Nat → Prop} (g : Chg S w w') (hn : ∀ x, x < B → ¬ S x) : Ints w' B v l := by
  obtain ⟨a, cap, e, h1⟩ := h
  refine ⟨a, cap, e, ?_⟩
  rcases h1 with h1 | ⟨g1, off, e1, h2, h3⟩
  · exact Or.inl h1
  · exact Or.inr ⟨g1, off, e1, h2, fun i hi => g.cell (hn g1 h2) (h3 i hi)⟩
theorem Ints.up {w : World} {B B' : Nat} {v : Value} {l : List Int} (h : Ints w B v l) (hb : B ≤ B') : Ints w B' v l := by
  obtain ⟨a, cap, e, h1⟩ := h
  refine ⟨a, cap, e, ?_⟩
  rcases h1 with h1 | ⟨g1, off, e1, h2, h3⟩
  · exact Or.inl h1
  · exact Or.inr ⟨g1, off, e1, by omega, h3⟩

theorem own_chg {w w' : World} {base : Nat} {e : TypeId} {size n : Nat} {v : Value} {xs : List Value} (h : w.ownsRow base e size v n xs) {S : Nat → Prop} (g : Chg S w w') (hn : ∀ x, base ≤ x → ¬ S x) : w'.ownsRow base e size v n xs := by
  obtain ⟨h1, h2⟩ := h
  refine ⟨h1, ?_⟩
  rcases h2 with h2 | ⟨gg, cap, cur, e1, h3, h4, h5⟩
  · exact Or.inl h2
  · exact Or.inr ⟨gg, cap, cur, e1, h3, g.blk (hn gg h3) h4, h5⟩

theorem own_grown {w w' : World} {base : Nat} {e : TypeId} {size n : Nat} {v : Value} {xs : List Value} (h : w.ownsRow base e size v n xs) (hg : w.grownBy w' v.ownBlock) (hb : base ≤ w.heap.size) : Chg (fun x => base ≤ x) w w' :=
  (Chg.refl _ _).grown hg (fun r e => Or.inl (h.lt r e).1)

theorem info3 : (Try.prog.info? 3).map (fun i => (i.zero, i.size, i.bytes)) = some (some (.int .i64 0), 1, 8) := by kernel_rfl

theorem ints_own {w : World} {base : Nat} {e : TypeId} {v : Value} {l : List Int} (h : w.ownsRow base e 1 v l.length (l.map (Value.int .i64))) : Ints w w.heap.size v l := by
  obtain ⟨h1, h2⟩ := id h
  rcases h2 with ⟨rfl, h3⟩ | ⟨g, cap, cur, rfl, h3⟩
  · exact ⟨none, 0, by rw [h3], Or.inl (List.eq_nil_of_length_eq_zero h3)⟩
  · refine ⟨_, cap, rfl, Or.inr ⟨g, 0, rfl, (h.lt g rfl).2, fun i hi => ?_⟩⟩
    have hc := h.cells (g := g) rfl i (.int .i64 l[i]) (by simp [hi])
    rw [add_at] at hc
    exact hc

theorem Grid.chg1 {w w' : World} {B L n m k : Nat} {gs : Nat → Nat} {W : Nat → Nat → Nat} (h : Grid w B L n m k gs W) {r : Nat} (g : Chg (fun x => x = r) w w') (hL : r ≠ L) (hg : ∀ i, i < k → r ≠ gs i) : Grid w' B L n m k gs W where
  c := by
    obtain ⟨c, h1, h2, h3⟩ := h.c
    exact ⟨c, g.blk (Ne.symm hL) h1, h2, h3⟩
  rows := fun i hi => (h.rows i hi).chg g (Ne.symm (hg i hi))
  ne := h.ne
  inj := h.inj
  bl := h.bl
  bg := h.bg

/-- A block of another type may change. -/
theorem Rs.chgT {w w' : World} {b n : Nat} {ps : Pairs} {mv sv : Value} (h : Rs w b n ps mv sv) {r : Nat} {cur : Array Value} {T : TypeId} (hr : w.heap[r]? = some (.cells cur T)) (hT : T ≠ 76 ∧ T ≠ 94) (hb : b < r) (g : Chg (fun x => x = r) w w') : Rs w' b n ps mv sv := by
  rcases h with ⟨pv, k, h1, h2⟩ | ⟨L, gs, W, pv, k, h1, h2, h3, h4⟩
  · exact Or.inl ⟨pv, k, h1.chg g (fun x hx e => by omega), h2.chg g (by omega)⟩
  · refine Or.inr ⟨L, gs, W, pv, k, h1.chg g (fun x hx e => by omega), h2.chg g (by omega), h3.chg1 g (fun e => ?_) (fun i hi e => ?_), h4⟩
    · subst e
      obtain ⟨c, k1, _⟩ := h3.c
      rw [hr] at k1
      injection k1 with k1
      injection k1 with _ k2
      exact hT.1 k2
    · subst e
      obtain ⟨c, k1, _⟩ := h3.rows i hi
      rw [hr] at k1
      injection k1 with k1
      injection k1 with _ k2
      exact hT.2 k2

theorem rank_odd {w : World} {r n : Nat} {ps : Pairs} {mv : Value} {a1 : Option Addr} {a2 a3 : Nat} (h : Rs w r n ps mv (.slice a1 a2 a3)) {i : Nat} {x y : Int} (h0 : w.cell? ⟨r, i, none⟩ = some (.int .i64 x)) (h1 : w.cell? ⟨r, i + 1, none⟩ = some (.int .i64 y)) : False := by
  have key : ∀ (nn k : Int) (b1 b2 b3 : Value) (d : Int) (pa ra : Option Addr) (p1 p2 r1 r2 : Nat), w.heap[r]? = some (.cells #[.int .i64 nn, .slice pa p1 p2, b1, .int .u32 d, .int .i32 0, .int .u32 0, .slice ra r1 r2, .int .i64 k, .slice a1 a2 a3] 74) → False := by
    intro nn k b1 b2 b3 d pa ra p1 p2 r1 r2 hb
    rw [blk_cell hb] at h0 h1
    match i, h0, h1 with
    | 0, _, h => cases h
    | 1, h, _ => cases h
    | 2, _, h => cases h
    | 3, h, _ => cases h
    | 4, h, _ => cases h
    | 5, h, _ => cases h
    | 6, h, _ => cases h
    | 7, _, h => cases h
    | 8, h, _ => cases h
    | j + 9, h, _ => cases h
  rcases h with ⟨pv, k, ⟨a, cap, rfl, _⟩, h2⟩ | ⟨L, gs, W, pv, k, ⟨a, cap, rfl, _⟩, h2, _⟩
  · exact key _ _ _ mv mv _ _ _ _ _ _ _ h2
  · exact key _ _ _ mv mv _ _ _ _ _ _ _ h2

theorem Rs.ty {w : World} {r n : Nat} {ps : Pairs} {mv sv : Value} (h : Rs w r n ps mv sv) : ∃ c, w.heap[r]? = some (.cells c 74) := by
  rcases h with ⟨pv, k, _, h2⟩ | ⟨L, gs, W, pv, k, _, h2, _⟩ <;> exact ⟨_, h2⟩

theorem PRow.chgR {w w' : World} {B : Nat} {v : Value} {qs : Pairs} (h : PRow w B v qs) {r n : Nat} {ps : Pairs} {mv : Value} {a1 : Option Addr} {a2 a3 : Nat} (hr : Rs w r n ps mv (.slice a1 a2 a3)) (g : Chg (fun x => x = r) w w') : PRow w' B v qs := by
  obtain ⟨a, cap, e, h1⟩ := h
  refine ⟨a, cap, e, ?_⟩
  rcases h1 with h1 | ⟨g1, off, e1, h2, h3⟩
  · exact Or.inl h1
  · have hne : ∀ i (h : i < qs.length), ¬ g1 = r := fun i hi e => by
      obtain ⟨k0, k1⟩ := h3 i hi
      subst e
      exact rank_odd hr k0 k1
    exact Or.inr ⟨g1, off, e1, h2, fun i hi => ⟨g.cell (hne i hi) (h3 i hi).1, g.cell (hne i hi) (h3 i hi).2⟩⟩

/-- Another rank may change. -/
theorem Rs.chgR {w w' : World} {b m : Nat} {qs : Pairs} {mu su : Value} (h : Rs w b m qs mu su) {r n : Nat} {ps : Pairs} {mv : Value} {a1 : Option Addr} {a2 a3 : Nat} (hr : Rs w r n ps mv (.slice a1 a2 a3)) (hne : b ≠ r) (g : Chg (fun x => x = r) w w') : Rs w' b m qs mu su := by
  obtain ⟨cur, hc⟩ := hr.ty
  rcases h with ⟨pv, k, h1, h2⟩ | ⟨L, gs, W, pv, k, h1, h2, h3, h4⟩
  · exact Or.inl ⟨pv, k, h1.chgR hr g, h2.chg g hne⟩
  · refine Or.inr ⟨L, gs, W, pv, k, h1.chgR hr g, h2.chg g hne, h3.chg1 g (fun e => ?_) (fun i hi e => ?_), h4⟩
    · subst e
      obtain ⟨c, k1, _⟩ := h3.c
      rw [hc] at k1
      injection k1 with k1
      injection k1 with _ k2
      exact absurd k2 (by decide)
    · subst e
      obtain ⟨c, k1, _⟩ := h3.rows i hi
      rw [hc] at k1
      injection k1 with k1
      injection k1 with _ k2
      exact absurd k2 (by decide)

theorem Rs.grown {w w' : World} {b n : Nat} {ps : Pairs} {mv sv : Value} (h : Rs w b n ps mv sv) {base : Nat} {T : TypeId} {size m : Nat} {v : Value} {xs : List Value} (hO : w.ownsRow base T size v m xs) (hg : w.grownBy w' v.ownBlock) (hT : T ≠ 76 ∧ T ≠ 94) (hb : b < base) : Rs w' b n ps mv sv := by
  rcases hO.2 with ⟨rfl, _⟩ | ⟨g, cap, cur, rfl, h1, h2, _⟩
  · have hc : Chg (fun _ => False) w w' := (Chg.refl _ _).grown hg (fun r e => by cases e)
    exact h.chg hc (fun _ _ h => h)
  · have hc : Chg (fun x => x = g) w w' := (Chg.refl _ _).grown hg (fun r e => by cases e; exact Or.inl rfl)
    exact h.chgT h2 hT (by omega) hc

/-- those that a is above -/
def underF (n : Nat) (ps : Pairs) (a : Int) (k : Nat) : List Int := ((List.range k).filter fun (c : Nat) => abv n ps a (c : Int)).map fun (c : Nat) => (c : Int)
theorem underF_succ (n : Nat) (ps : Pairs) (a : Int) (k : Nat) : underF n ps a (k + 1) = underF n ps a k ++ (if abv n ps a (k : Int) = true then [(k : Int)] else []) := by
  unfold underF
  rw [List.range_succ, List.filter_append, List.map_append]
  congr 1
  simp only [List.filter_cons, List.filter_nil]
  split <;> simp
theorem underF_len (n : Nat) (ps : Pairs) (a : Int) (k : Nat) : (underF n ps a k).length ≤ k := by
  unfold underF
  rw [List.length_map]
  exact Nat.le_trans (List.length_filter_le _ _) (by simp)

set_option maxRecDepth 100000 in
set_option maxHeartbeats 4000000 in
theorem under_some (b n : Nat) (hn : n ≤ 1000) (ps : Pairs) (hps : ps.length ≤ 1000000) (hbd : Bd ps n) (mv sv : Value) (a : Int) (w : World) (h : Rs w b n ps mv sv) :
    Calls Try.prog 18 #[.pointer (some ⟨b, 0, none⟩), .int .i64 a] w fun e w' => (∃ v, e = .returned v ∧ w'.ownsRow w.heap.size 3 1 v (underF n ps a n).length ((underF n ps a n).map (Value.int .i64))) ∧ Rs w' b n ps mv sv ∧ Chg (fun x => x = b) w w' := by
  obtain ⟨i0, hi0, hz0, hz1, hz2⟩ := info_parts info3
  have c0 := h.n
  have lb := h.lt
  have ln := hide (len_some b n w c0)
  have H := hide h
  have ab := hide (fun w' (y : Int) h => above_any b n hn ps hps hbd mv sv a y w' h)
  clear h c0
  go_enter Try.func18, Try.ntmps18
  go_wp2_with fail
  refine ln.out.mono ?_
  rintro e w1 ⟨rfl, rfl⟩
  go_wp2_with fail
  go_loopw [9, 5] (fun iv ov wr => ∃ k : Nat, k ≤ n ∧ iv = .int .i64 k ∧ Hid (wr.ownsRow w.heap.size 3 1 ov (underF n ps a k).length ((underF n ps a k).map (Value.int .i64))) ∧ Hid (Rs wr b n ps mv sv) ∧ Hid (Chg (fun x => x = b) w wr)) (fun iv _ _ => n - (intOf iv).toNat)
  case atStart => exact ⟨0, Nat.zero_le _, rfl, ⟨rfl, Or.inl ⟨rfl, rfl⟩⟩, H, Chg.refl _ _⟩
  case round =>
    obtain ⟨k, hk, rfl, hO, hR, hC⟩ := hrel
    by_cases hlt : k < n
    · have hab := hide (ab.out wr (k : Int) hR.out)
      have hul := underF_len n ps a k
      have hsucc := underF_succ n ps a k
      cases hc : abv n ps a (k : Int)
      · rw [hc] at hab hsucc
        have hs : underF n ps a (k + 1) = underF n ps a k := by rw [hsucc]; simp
        have HS := hide hs
        clear hs hsucc hc
        go_wp2_with fail
        refine hab.out.mono ?_
        rintro e w2 ⟨rfl, r2, g2⟩
        have R2 := hide r2
        have O2 := hide (own_chg hO.out g2 (fun x hx e => by omega))
        have C2 := hide (hC.out.trans g2)
        clear r2 g2 hab
        go_wp2_with fail
        go_roundw
        case rel => exact ⟨k + 1, by omega, by go_num, by unfold Hid; rw [HS.out]; exact O2.out, R2, C2⟩
        case measure => simp [intOf]; omega
      · rw [hc] at hab hsucc
        have hs : underF n ps a (k + 1) = underF n ps a k ++ [(k : Int)] := by rw [hsucc]; simp
        have HS := hide hs
        clear hs hsucc hc
        go_wp2_with fail
        refine hab.out.mono ?_
        rintro e w2 ⟨rfl, r2, g2⟩
        have O2 := hide (own_chg hO.out g2 (fun x hx e => by omega))
        have C2 := hide (hC.out.trans g2)
        have hw2 : w.heap.size ≤ w2.heap.size := C2.out.size
        have O3 := hide (O2.out.alloc (.cells #[.int .i64 (k : Int)] 3))
        have NB := hide (World.news_of_block (cs := #[.int .i64 (k : Int)]) (t := 3) (fr := (0, 0)) (heap_alloc_new w2 _))
        have R2 := hide (r2.chg (al w2 (.cells #[.int .i64 (k : Int)] 3)) (fun _ _ h => h))
        have C3 := hide (C2.out.trans (al w2 (.cells #[.int .i64 (k : Int)] 3)).none)
        clear r2 g2 hab
        go_wp2_with (at_builtin; refine wpList_append_own _ rfl _ _ 36 rfl w.heap.size 3 i0 (.int .i64 0) 1 8 Try.underlying36 hi0 hz0 hz1 hz2 rfl (by decide) _ (underF n ps a k).length ((underF n ps a k).map (Value.int .i64)) rfl O3.out ⟨w2.heap.size, 0, none⟩ 1 1 [.int .i64 (k : Int)] rfl rfl NB.out (by simp [Value.oneCell']) (by simp [maxLen]; omega) (by omega) (by simp; omega) ?_; intro v' w3 hown3 hgrow _)
        have G3 := own_grown O3.out hgrow (by simp; omega)
        have R3 := hide (R2.out.grown O3.out hgrow ⟨by decide, by decide⟩ lb)
        have O4 := hide hown3
        have C4 : Hid (Chg (fun x => x = b) w w3) := hide (by
          have h1 : Chg (fun x => x = b ∨ w.heap.size ≤ x) w w3 := (C3.out.mono (fun x _ h => Or.inl h)).trans (G3.mono (fun x _ h => Or.inr h))
          exact h1.mono (fun x hx h => by omega))
        clear hown3 hgrow G3 O2 O3 NB R2 C2 C3
        go_wp2_with fail
        go_roundw
        case rel => exact ⟨k + 1, by omega, by go_num, by unfold Hid; rw [HS.out, List.length_append, List.map_append]; exact O4.out, R3, C4⟩
        case measure => simp [intOf]; omega
    · have hkn : k = n := by omega
      subst hkn
      go_wp2_with fail
      go_ret
      exact ⟨⟨_, rfl, hO.out⟩, hR.out, hC.out⟩
end Go.Proofs.Ytdcpcemihpkkaaa
