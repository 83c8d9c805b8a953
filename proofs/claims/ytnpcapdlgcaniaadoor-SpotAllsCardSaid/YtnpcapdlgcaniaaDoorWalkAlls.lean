/- SpotAlls' walk. -/
import Derived.Test.YtnpcapdlgcaniaaDoorKnown
import Derived.Test.YtnpcapdlgcaniaaDoorPlacesLaw
import Derived.Test.YtnpcapdlgcaniaaDoorInRound
import Derived.Test.YtnpcapdlgcaniaaDoorRefCmp
import Derived.Test.YtnpcapdlgcaniaaDoorOf06
import Derived.Test.YtnpcapdlgcaniaaDoorSame06
import Derived.Test.YtnpcapdlgcaniaaDoorFew06
import Derived.Test.YtnpcapdlgcaniaaDoorOpensT
import Derived.Test.YtnpcapdlgcaniaaDoorLaid
import Derived.Deep.DeepCutAuto
import Derived.Deep.CutBlock
namespace Go.Proofs.YtnpcapdlgcaniaaDoor
open Go.RowKit Go.Shelf
attribute [local go_sem] Oper.semAt_some
set_option linter.unusedVariables false
set_option linter.unusedSimpArgs false

/-- no panic is let through -/
def noPanic (Q : Exit → Act → World → Prop) : Exit → Act → World → Prop
  | .panic _, _, _ => False
  | e, a, w => Q e a w
theorem noPanic_of {Q : Exit → Act → World → Prop} {e : Exit} {a : Act} {w : World} (h : noPanic Q e a w) : Q e a w := by
  cases e <;> first | exact h | exact h.elim
theorem wrap_small {n : Int} (h0 : 0 ≤ n) (h1 : n ≤ 1000000) : IntKind.i64.wrap n = n := by
  have h : n % 18446744073709551616 = n := Int.emod_eq_of_lt h0 (by omega)
  unfold IntKind.wrap
  simp [IntKind.bits, IntKind.signed, h]
  omega
theorem noPanic_ret {Q : Exit → Act → World → Prop} {a : Act} {w : World} (h : Q .ret a w) : noPanic Q .ret a w := h
theorem few_ok' {t : Tm} (h1 : In64' t.ix) (h2 : TIn t.ag) (h : 1 + t.bs.size + t.ag.size ≤ 150) : TmOk t := by
  have := Tms.len_size t.ag
  exact ⟨by omega, h1, by omega, tok_of h2 (by omega), by omega⟩
theorem tv_new' {w' : World} {b : Nat} {v : Value} {t : Tm} (h : TV w' (fun x => b ≤ x ∧ x < w'.heap.size) v t) : TV w' (fun x => x < w'.heap.size) v t := h.up (fun x hx => hx.2)
/-- rows of ints, their capacities aside -/
def Rwi (w : World) (X : Nat → Prop) (v : Value) (ls : List (List Int)) : Prop :=
  ∃ a cap, v = .slice a ls.length cap ∧ (ls = [] ∨ ∃ g off, a = some ⟨g, off, none⟩ ∧ X g ∧ ∀ i (h : i < ls.length), ∃ u, w.cell? ⟨g, off + i, none⟩ = some u ∧ Il w X u ls[i])
theorem Rwi.chg {w w' : World} {X : Nat → Prop} {v : Value} {ls : List (List Int)} (h : Rwi w X v ls) {S : Nat → Prop} (gc : Chg S w w') (hn : ∀ x, X x → ¬ S x) : Rwi w' X v ls := by
  obtain ⟨a, cap, e, h1⟩ := h
  refine ⟨a, cap, e, ?_⟩
  rcases h1 with h1 | ⟨g, off, e1, h2, h3⟩
  · exact Or.inl h1
  · exact Or.inr ⟨g, off, e1, h2, fun i hi => by
      obtain ⟨u, c, l⟩ := h3 i hi
      exact ⟨u, gc.cell (hn g h2) c, l.chg gc hn⟩⟩
theorem Rwi.up {w : World} {X Y : Nat → Prop} {v : Value} {ls : List (List Int)} (h : Rwi w X v ls) (hb : ∀ x, X x → Y x) : Rwi w Y v ls := by
  obtain ⟨a, cap, e, h1⟩ := h
  refine ⟨a, cap, e, ?_⟩
  rcases h1 with h1 | ⟨g, off, e1, h2, h3⟩
  · exact Or.inl h1
  · exact Or.inr ⟨g, off, e1, hb g h2, fun i hi => by
      obtain ⟨u, c, l⟩ := h3 i hi
      exact ⟨u, c, l.up hb⟩⟩
theorem Rws.rwi {w : World} {X : Nat → Prop} {v : Value} {ls : List (List Int)} (h : Rws w X v ls) : Rwi w X v ls := by
  obtain ⟨a, cap, e, h1⟩ := h
  refine ⟨a, cap, e, ?_⟩
  rcases h1 with h1 | ⟨g, off, e1, h2, h3⟩
  · exact Or.inl h1
  · exact Or.inr ⟨g, off, e1, h2, fun i hi => by
      obtain ⟨u, c, l⟩ := h3 i hi
      exact ⟨u, c, l.1⟩⟩
theorem RowsAt.rwi {w : World} {lo : Nat} {v : Value} {us : List Rw} (h : RowsAt w lo v us) : Rwi w (fun y => lo ≤ y ∧ y < w.heap.size) v (us.map (·.2)) := by
  obtain ⟨h1, h2⟩ := h
  rcases id h1.2 with ⟨rfl, h3⟩ | ⟨g, cap, cur, rfl, hb, hc, _⟩
  · have : us = [] := List.eq_nil_of_length_eq_zero h3
    subst this
    exact ⟨none, 0, rfl, Or.inl rfl⟩
  · refine ⟨_, cap, by rw [List.length_map], Or.inr ⟨g, 0, rfl, ⟨hb, blk_lt hc⟩, fun i hi => ?_⟩⟩
    rw [List.length_map] at hi
    have hcell := World.ownsRow.cells h1 (g := g) rfl
    have := hcell i us[i].1 (by simp [hi])
    rw [add_at] at this
    exact ⟨_, this, by
      simp only [List.getElem_map]
      exact (h2 _ (List.getElem_mem hi)).up (fun y hy => ⟨hy.1, hy.2.1⟩)⟩
theorem kids_short (f : Tms) : ∀ (p : List Int) (i : Nat) (e : List Int × Tm), e ∈ kidsP p i f → e.1.length ≤ p.length + f.size := by
  induction f with
  | nil => intro p i e h; cases h
  | cons b k j a r ih1 ih2 =>
    intro p i e h
    simp only [kidsP, List.mem_cons, List.mem_append] at h
    simp only [Tms.size]
    rcases h with rfl | h | h
    · simp
    · have h1 := ih1 _ _ e h
      rw [List.length_append, List.length_singleton] at h1
      omega
    · have h1 := ih2 _ _ e h
      omega
theorem places_short (p : List Int) (t : Tm) (e : List Int × Tm) (h : e ∈ placesP p t) : e.1.length ≤ p.length + t.ag.size := by
  unfold placesP at h
  rcases List.mem_cons.1 h with rfl | h
  · exact Nat.le_add_right _ _
  · exact kids_short t.ag p 0 e h
theorem stop_k (stop : Int) : ∃ k : Nat, 1 ≤ k ∧ k ≤ 200 ∧ wrap64 (1 + wrap64 ((IntKind.u64.wrap stop).tmod 200)) = (k : Int) := by
  have e : IntKind.u64.wrap stop = stop % 18446744073709551616 := by
    unfold IntKind.wrap
    simp [IntKind.bits, IntKind.signed]
  have h0 : 0 ≤ stop % 18446744073709551616 := Int.emod_nonneg _ (by decide)
  have e2 : (stop % 18446744073709551616).tmod 200 = (stop % 18446744073709551616) % 200 := Int.tmod_eq_emod_of_nonneg h0
  have h1 : 0 ≤ (stop % 18446744073709551616) % 200 := Int.emod_nonneg _ (by decide)
  have h2 : (stop % 18446744073709551616) % 200 < 200 := Int.emod_lt_of_pos _ (by decide)
  rw [e, e2]
  generalize (stop % 18446744073709551616) % 200 = r at *
  have e3 : wrap64 r = r := by unfold wrap64; omega
  have e4 : wrap64 (1 + r) = 1 + r := by unfold wrap64; omega
  rw [e3, e4]
  exact ⟨(1 + r).toNat, by omega, by omega, by omega⟩
/-- what the rounds have come to: so many, and all was right -/
def SI (W0 : World) (N9 K10 K : Nat) (pre : List Nd) (W : World) : Prop :=
  W.heap[N9]? = some (.cells #[.int .i64 (pre.length : Int)] 3) ∧ W.heap[K10]? = some (.cells #[.bool true] 4) ∧ Chg (fun x => x = N9 ∨ x = K10) W0 W ∧ pre.length < K
def SX (W0 : World) (N9 K10 K : Nat) (c : Code) (pre : List Nd) (W : World) : Prop :=
  c = .exit 2 ∧ W.heap[N9]? = some (.cells #[.int .i64 (pre.length : Int)] 3) ∧ W.heap[K10]? = some (.cells #[.bool true] 4) ∧ Chg (fun x => x = N9 ∨ x = K10) W0 W ∧ pre.length = K
theorem s_own {W0 A C : World} {N9 K10 : Nat} (h1 : N9 < W0.heap.size) (h2 : K10 < W0.heap.size) {row : Option Nat} {o1 o2 : Obj} (a : A.heap[N9]? = some o1) (b : A.heap[K10]? = some o2) (c : Chg (fun x => x = N9 ∨ x = K10) W0 A) (hg : A.grownBy C row) (hr : ∀ r, row = some r → W0.heap.size ≤ r ∧ ∃ o : Obj, A.heap[r]? = some o ∧ o.isCells = false) :
    C.heap[N9]? = some o1 ∧ C.heap[K10]? = some o2 ∧ Chg (fun x => x = N9 ∨ x = K10) W0 C :=
  ⟨(hg.block N9 (blk_lt a) (fun e => by have := (hr N9 e.symm).1; omega)).trans a, (hg.block K10 (blk_lt b) (fun e => by have := (hr K10 e.symm).1; omega)).trans b, c.grown hg (fun r e => Or.inr (hr r e).1)⟩
theorem si_own {W0 : World} {N9 K10 K : Nat} (h1 : N9 < W0.heap.size) (h2 : K10 < W0.heap.size) : OwnFrom W0.heap.size (SI W0 N9 K10 K) :=
  fun s A C row hs hg hr => let ⟨a, b, c⟩ := s_own h1 h2 hs.1 hs.2.1 hs.2.2.1 hg hr; ⟨a, b, c, hs.2.2.2⟩
theorem sx_own {W0 : World} {N9 K10 K : Nat} (h1 : N9 < W0.heap.size) (h2 : K10 < W0.heap.size) (c : Code) : OwnFrom W0.heap.size (SX W0 N9 K10 K c) :=
  fun s A C row hs hg hr => let ⟨a, b, c⟩ := s_own h1 h2 hs.2.1 hs.2.2.1 hs.2.2.2.1 hg hr; ⟨hs.1, a, b, c, hs.2.2.2.2⟩
theorem TV.kpa {w w' : World} {X : Nat → Prop} {v : Value} {t : Tm} (h : TV w X v t) (g : KpG AllG w w') : TV w' X v t := by
  obtain ⟨a, b, c, d, e, h1, h2⟩ := h
  exact ⟨a, b, c, d, e, h1.kp g (fun _ _ _ => trivial), h2.kp g (fun _ _ _ => trivial)⟩
theorem chg_put (W : World) (l : Nat) (o : Obj) : Chg (fun x => x = l) W (W.putObj l o) := (Chg.refl _ W).grown (grownBy_putObj' W l o) (fun r e => Or.inl (Option.some.inj e).symm)
theorem keeps_of {B : Nat} {S : Nat → Prop} {W W' : World} (h : Chg S W W') (hS : ∀ x, S x → x < B) : KeepsFrom B W W' :=
  ⟨h.size, fun k o hB hk _ => (h.block k (Array.getElem?_eq_some_iff.1 hk).1 (fun e => by have := hS k e; omega)).trans hk⟩
theorem calls_in_round {n l : Nat} {P : Program} {f : FuncId} {args : Array Value} {w : World} {R : Ending → World → Prop} (h : Calls P f args w R) : CallsIn (Fence.wide.inRound l) n P f args w R := callsIn_wide.2 h
theorem round_facts {t : Tm} {PL : List (List Int)} {pre : List Nd} {x : Nd} (hsp : (pre ++ [x]).map pr <+: placesP [] t) (h : (placesP [] t).map (·.1) = PL) : ∃ (hn : pre.length < PL.length), PL[pre.length] = x.2.2.1 ∧ ∃ l, atR t x.2.2.1 = some (x.2.2.2, l) := by
  subst h
  rw [List.map_append] at hsp
  obtain ⟨h1, h2⟩ := prefix_at hsp
  rw [List.length_map] at h1
  simp only [List.length_map] at h2
  refine ⟨by rw [List.length_map]; exact h1, ?_, ?_⟩
  · rw [List.getElem_map, h2]
    rfl
  · have hm := List.getElem_mem h1
    rw [h2] at hm
    exact places_at t _ hm
theorem pl_len {t : Tm} {PL : List (List Int)} (h : (placesP [] t).map (·.1) = PL) (hs : 1 + t.bs.size + t.ag.size ≤ 150) {j : Nat} (hj : j < PL.length) : (PL[j]).length ≤ 150 := by
  subst h
  rw [List.length_map] at hj
  rw [List.getElem_map]
  have h := places_short [] t _ (List.getElem_mem hj)
  rw [List.length_nil] at h
  omega
theorem pl_next {t : Tm} {PL : List (List Int)} (h : (placesP [] t).map (·.1) = PL) {j : Nat} (hj : j + 1 < PL.length) : cmpL (PL[j]'(by omega)) PL[j + 1] = -1 := by
  subst h
  rw [List.length_map] at hj
  simp only [List.getElem_map]
  exact places_next t j hj
theorem len_pl {t : Tm} {PL : List (List Int)} (h : (placesP [] t).map (·.1) = PL) (hs : 1 + t.bs.size + t.ag.size ≤ 150) {j : Nat} {p : List Int} {hj : j < PL.length} (hp : PL[j] = p) (_ : j < PL.length) : p.length ≤ 150 := by
  rw [← hp]
  exact pl_len h hs hj

set_option maxRecDepth 100000 in
set_option maxHeartbeats 64000000 in
theorem alls_in (t : Tm) (stop : Int) (hs : In64' stop) (v : Value) (w : World) (ht : TmIs w v t) :
    CallsIn Fence.wide 6 Tryd.prog 4 #[v, .int .i64 stop] w fun e w' => e = .returned (.bool true) ∧ Below w.heap.size w w' := by
  obtain ⟨hv, hin1, hin2, hin3⟩ := ht
  obtain ⟨b, k, i, f⟩ := t
  obtain ⟨ba, bc, a, cap, rfl, h1, h2⟩ := hv
  dsimp only [Tm.bs, Tm.kd, Tm.ix, Tm.ag] at *
  have OK0 := hide (fun (h : 1 + b.size + f.size ≤ 150) => few_ok' (t := (b, k, i, f)) hin2 hin3 h)
  have T0 : Hid (TV w (fun x => x < w.heap.size) (.agg #[.slice ba b.len bc, .int .i64 k, .int .i64 i, .slice a f.len cap]) (b, k, i, f)) := hide ⟨ba, bc, a, cap, rfl, h1, h2⟩
  have HSTOP := hide hs
  have G1 := al w (.cells #[.slice ba b.len bc, .int .i64 k, .int .i64 i, .slice a f.len cap] 27)
  have b0 := blk_new w (.cells #[.slice ba b.len bc, .int .i64 k, .int .i64 i, .slice a f.len cap] 27)
  have G2 := al (w.alloc (.cells #[.slice ba b.len bc, .int .i64 k, .int .i64 i, .slice a f.len cap] 27)) (.cells #[.int .i64 stop] 3)
  have b1 := blk_new (w.alloc (.cells #[.slice ba b.len bc, .int .i64 k, .int .i64 i, .slice a f.len cap] 27)) (.cells #[.int .i64 stop] 3)
  have G3 := al ((w.alloc (.cells #[.slice ba b.len bc, .int .i64 k, .int .i64 i, .slice a f.len cap] 27)).alloc (.cells #[.int .i64 stop] 3)) (.cells #[.slice ba b.len bc, .int .i64 k, .int .i64 i, .slice a f.len cap] 27)
  have b2 := blk_new ((w.alloc (.cells #[.slice ba b.len bc, .int .i64 k, .int .i64 i, .slice a f.len cap] 27)).alloc (.cells #[.int .i64 stop] 3)) (.cells #[.slice ba b.len bc, .int .i64 k, .int .i64 i, .slice a f.len cap] 27)
  have b0' := G3.blk (fun h => h) (G2.blk (fun h => h) b0)
  have b1' := G3.blk (fun h => h) b1
  rw [al_sz] at b1'
  rw [al_sz, al_sz] at b2
  have GG := hide ((G1.trans G2).trans G3)
  have BP := hide b0'
  have BS := hide b1'
  have sz3 : (((w.alloc (.cells #[.slice ba b.len bc, .int .i64 k, .int .i64 i, .slice a f.len cap] 27)).alloc (.cells #[.int .i64 stop] 3)).alloc (.cells #[.slice ba b.len bc, .int .i64 k, .int .i64 i, .slice a f.len cap] 27)).heap.size = w.heap.size + 3 := by rw [al_sz, al_sz, al_sz]
  have FW := hide (L06Few_any (.cons b k i f .nil) (by simp only [Tms.len]; omega) (.slice (some ⟨w.heap.size + 1 + 1, 0, none⟩) 1 1) (fun x => x < (((w.alloc (.cells #[.slice ba b.len bc, .int .i64 k, .int .i64 i, .slice a f.len cap] 27)).alloc (.cells #[.int .i64 stop] 3)).alloc (.cells #[.slice ba b.len bc, .int .i64 k, .int .i64 i, .slice a f.len cap] 27)).heap.size) (((w.alloc (.cells #[.slice ba b.len bc, .int .i64 k, .int .i64 i, .slice a f.len cap] 27)).alloc (.cells #[.int .i64 stop] 3)).alloc (.cells #[.slice ba b.len bc, .int .i64 k, .int .i64 i, .slice a f.len cap] 27)) (fun x h => h) ⟨_, 1, rfl, Or.inr ⟨w.heap.size + 1 + 1, 0, rfl, by rw [sz3]; omega, tlies_cons.2 ⟨⟨_, blk_cell b2 0, h1.all GG.out⟩, blk_cell b2 1, blk_cell b2 2, ⟨_, blk_cell b2 3, h2.all GG.out⟩, trivial⟩⟩⟩)
  have SZ := hide sz3
  have c0 := G2.cell (fun h => h) (blk_cell b0 0)
  have c1 := G2.cell (fun h => h) (blk_cell b0 1)
  have c2 := G2.cell (fun h => h) (blk_cell b0 2)
  have c3 := G2.cell (fun h => h) (blk_cell b0 3)
  try simp only [List.getElem?_toArray, List.getElem?_cons_zero, List.getElem?_cons_succ] at c0 c1 c2 c3
  clear G1 G2 G3 b0 b1 b2 b0' b1' sz3 h1 h2 hin1 hin2 hin3 hs
  let HBP := fun (R : Ending → World → Prop) => bodyPost Tryd.prog Tryd.f4 R
  refine callsIn_of_wp_marks Tryd.func4 rfl trivial ?_ rfl
  simp only [Tryd.ntmps4, List.size_toArray, List.length_cons, List.length_nil, Nat.reduceAdd, Nat.reduceSub, Array.replicate_succ, Array.replicate_zero, List.push_toArray, List.append_toArray, List.nil_append, List.cons_append]
  refine wpIn_mono (Q := noPanic (bodyPostM Fence.wide 6 Tryd.prog Tryd.f4 fun e w' => e = .returned (.bool true) ∧ Below w.heap.size w w')) (wpIn_wide.2 ?_) (fun e a w h => noPanic_of h)
  go_wp2_with fail
  generalize (((w.alloc (.cells #[.slice ba b.len bc, .int .i64 k, .int .i64 i, .slice a f.len cap] 27)).alloc (.cells #[.int .i64 stop] 3)).alloc (.cells #[.slice ba b.len bc, .int .i64 k, .int .i64 i, .slice a f.len cap] 27)) = w1 at *
  refine FW.out.mono ?_
  rintro e w3 ⟨⟨r, rfl, hr⟩, g3⟩
  obtain ⟨P, hP⟩ : ∃ P, w.heap.size = P := ⟨_, rfl⟩
  obtain ⟨SS, hSS⟩ : ∃ SS, P + 1 = SS := ⟨_, rfl⟩
  rw [hP] at BP BS
  rw [hSS] at BS
  try rw [hP]
  try rw [hSS]
  have HP : Hid (P < SS ∧ SS < w1.heap.size ∧ w.heap.size = P) := hide ⟨by omega, by have := SZ.out; omega, hP⟩
  have G3 := hide (GG.out.trans g3)
  have BP3 := hide (g3.blk (fun h => h) BP.out)
  have BS3 := hide (g3.blk (fun h => h) BS.out)
  have HR := hide hr
  have L3 : Hid (SS < w3.heap.size) := hide (by have := HP.out; have := g3.size; omega)
  clear g3 hr FW c0 c1 c2 c3 hP hSS GG BP BS SZ
  cases r
  · go_wp2_with fail
    refine (known_any _).mono ?_
    rintro e w5 ⟨rfl, g5⟩
    have G5 := hide (G3.out.trans g5)
    clear g5
    go_wp2_with fail
    exact ret_marks (v := .bool true) (by simp [results, Tryd.results4, go_sem]) ⟨rfl, G5.out.below (Nat.le_refl _) (fun _ h => h.elim)⟩
  · have SMALL : Hid (1 + b.size + f.size ≤ 150) := hide (HR.out rfl (b, k, i, f) (by simp [Tms.toL]))
    have OK := hide (OK0.out SMALL.out)
    clear HR OK0
    have x0 : w3.cell? ⟨P, 0, none⟩ = some (.slice ba b.len bc) := blk_cell BP3.out 0
    have x1 : w3.cell? ⟨P, 1, none⟩ = some (.int .i64 k) := blk_cell BP3.out 1
    have x2 : w3.cell? ⟨P, 2, none⟩ = some (.int .i64 i) := blk_cell BP3.out 2
    have x3 : w3.cell? ⟨P, 3, none⟩ = some (.slice a f.len cap) := blk_cell BP3.out 3
    have TO := hide (to06_any (b, k, i, f) OK.out _ _ w3 (fun x h => h) (T0.out.all G3.out))
    go_wp2_with fail
    refine TO.out.mono ?_
    rintro e w4 ⟨⟨v', rfl, tv⟩, g4⟩
    obtain ⟨aa, ac, ad, ae, rfl, ta1, ta2⟩ := id tv
    dsimp only [Tm.bs, Tm.kd, Tm.ix, Tm.ag] at ta1 ta2 ⊢
    have GA := al w4 (.cells #[.slice aa b.len ac, .int .i64 k, .int .i64 i, .slice ad f.len ae] 35)
    have BA := hide (blk_new w4 (.cells #[.slice aa b.len ac, .int .i64 k, .int .i64 i, .slice ad f.len ae] 35))
    have G := hide ((G3.out.trans g4).trans GA)
    have BP := hide ((g4.trans GA).blk (fun h => h) BP3.out)
    have BS := hide ((g4.trans GA).blk (fun h => h) BS3.out)
    have TA : Hid (TV (w4.alloc (.cells #[.slice aa b.len ac, .int .i64 k, .int .i64 i, .slice ad f.len ae] 35)) (fun x => SS < x ∧ x < w4.heap.size) (.agg #[.slice aa b.len ac, .int .i64 k, .int .i64 i, .slice ad f.len ae]) (b, k, i, f)) := hide ((tv.chg GA (fun _ _ h => h)).up (fun x hx => ⟨by have := L3.out; have := hx.1; omega, hx.2⟩))
    have S34 : Hid (w3.heap.size ≤ w4.heap.size) := hide g4.size
    clear tv ta1 ta2 g4 GA x0 x1 x2 x3 TO BP3 BS3 G3
    go_upto_region 4 with fail
    obtain ⟨A, hA⟩ : ∃ A, w4.heap.size = A := ⟨_, rfl⟩
    rw [hA] at BA TA
    try rw [hA]
    have HA : Hid (P < SS ∧ SS < A ∧ A < (w4.alloc (.cells #[.slice aa b.len ac, .int .i64 k, .int .i64 i, .slice ad f.len ae] 35)).heap.size) := hide ⟨HP.out.1, by have := L3.out; have := S34.out; omega, blk_lt BA.out⟩
    clear hA L3 S34
    generalize w4.alloc (.cells #[.slice aa b.len ac, .int .i64 k, .int .i64 i, .slice ad f.len ae] 35) = wb at *
    obtain ⟨PL, hPL⟩ : ∃ PL, (placesP [] (b, k, i, f)).map (·.1) = PL := ⟨_, rfl⟩
    have HPL := hide hPL
    have HLEN : Hid (PL.length = 1 + f.cnt ∧ PL.length ≤ 150) := hide (by rw [← hPL, List.length_map, placesP_len]; refine ⟨rfl, ?_⟩; have := SMALL.out; have := Tms.cnt_size f; dsimp only [Tm.ag]; omega)
    clear hPL
    have TAb := hide (TA.out.up (Y := fun x => x < wb.heap.size) (fun x hx => by have := HA.out; omega))
    have TPb := hide ((T0.out.chg G.out (fun _ _ h => h)).up (Y := fun x => x < P) (fun x hx => by have := HP.out; omega))
    have HPS : Hid (P < SS ∧ SS < wb.heap.size) := hide (by have := HA.out; omega)
    have h0 : wb.cell? ⟨A, 0, none⟩ = some (.slice aa b.len ac) := blk_cell BA.out 0
    have h1 : wb.cell? ⟨A, 1, none⟩ = some (.int .i64 k) := blk_cell BA.out 1
    have h2 : wb.cell? ⟨A, 2, none⟩ = some (.int .i64 i) := blk_cell BA.out 2
    have h3 : wb.cell? ⟨A, 3, none⟩ = some (.slice ad f.len ae) := blk_cell BA.out 3
    have h4 : wb.cell? ⟨P, 0, none⟩ = some (.slice ba b.len bc) := blk_cell BP.out 0
    have h5 : wb.cell? ⟨P, 1, none⟩ = some (.int .i64 k) := blk_cell BP.out 1
    have h6 : wb.cell? ⟨P, 2, none⟩ = some (.int .i64 i) := blk_cell BP.out 2
    have h7 : wb.cell? ⟨P, 3, none⟩ = some (.slice a f.len cap) := blk_cell BP.out 3
    go_cut [6, 7] (fun s6 s7 wx => ∃ (M : Nat) (vl vm : Value), s6 = vl ∧ s7 = .pointer (some ⟨M, 0, none⟩) ∧ Hid (wx.heap[M]? = some (.cells #[vm] 49)) ∧ Hid (Rwi wx (fun y => y < wx.heap.size) vl PL) ∧ Hid (Rws wx (fun y => y < wx.heap.size ∧ y ≠ SS) vm PL) ∧ Hid (Chg (fun _ => False) wb wx ∧ wb.heap.size ≤ M))
    case first =>
      refine wp_region_held_drew (S := (fun w' => w'.cell? ⟨A, 0, none⟩ = some (.slice aa b.len ac) ∧ w'.cell? ⟨A, 1, none⟩ = some (.int .i64 k) ∧ w'.cell? ⟨A, 2, none⟩ = some (.int .i64 i) ∧ w'.cell? ⟨A, 3, none⟩ = some (.slice ad f.len ae) ∧ w'.cell? ⟨P, 0, none⟩ = some (.slice ba b.len bc) ∧ w'.cell? ⟨P, 1, none⟩ = some (.int .i64 k) ∧ w'.cell? ⟨P, 2, none⟩ = some (.int .i64 i) ∧ w'.cell? ⟨P, 3, none⟩ = some (.slice a f.len cap))) (by kernel_rfl) (by go_keep) (fun hHeld => ?_)
      first
        | (refine wpAnyH_take (i := 0) (v := undef) rfl (by kernel_rfl) (by kernel_rfl) (by kernel_rfl) (fun _ _ _ h => h) (Or.inr ⟨by rfl, rfl⟩) (by assumption) ?_)
        | (refine wpAnyH_take (i := 0) (v := ?_) rfl (by kernel_rfl) (by kernel_rfl) (by kernel_rfl) (fun _ _ _ h => h) (Or.inl ⟨by rfl, ?_⟩) (by assumption) ?_
           rotate_left
           (intro w hSw
            (try dsimp only at hSw)
            (go_simp <;> with_reducible rfl)))
      try simp only [Act.put, List.getElem_toArray, List.getElem_cons_zero, List.getElem_cons_succ, List.setIfInBounds_toArray, List.set_cons_zero, List.set_cons_succ]
      first
        | (refine wpAnyH_take (i := 2) (v := undef) rfl (by kernel_rfl) (by kernel_rfl) (by kernel_rfl) (fun _ _ _ h => h) (Or.inr ⟨by rfl, rfl⟩) (by assumption) ?_)
        | (refine wpAnyH_take (i := 2) (v := ?_) rfl (by kernel_rfl) (by kernel_rfl) (by kernel_rfl) (fun _ _ _ h => h) (Or.inl ⟨by rfl, ?_⟩) (by assumption) ?_
           rotate_left
           (intro w hSw
            (try dsimp only at hSw)
            (go_simp <;> with_reducible rfl)))
      try simp only [Act.put, List.getElem_toArray, List.getElem_cons_zero, List.getElem_cons_succ, List.setIfInBounds_toArray, List.set_cons_zero, List.set_cons_succ]
      refine wpAnyH_ready (rs := [1, 4]) (by kernel_rfl) (by simp) ?_
      refine AllReadyH.cons (i := 1) (o := _) rfl (fun K hK => ?_) ?_
      · go_simp
        have GC : Hid (Chg (fun _ => False) wb wb.drew) := hide ((Chg.refl (fun _ => False) wb).drew)
        refine (all_any (b, k, i, f) OK.out (.agg #[.slice aa b.len ac, .int .i64 k, .int .i64 i, .slice ad f.len ae]) (fun x => x < wb.heap.size) wb.drew (fun x hx => Nat.lt_of_lt_of_le hx GC.out.size) (TAb.out.chg GC.out (fun _ _ h => h))).mono ?_
        rintro e v1 ⟨⟨vr, us, rfl, rr, eu⟩, g'⟩
        have rw1 := rr.rwi
        rw [eu, HPL.out] at rw1
        obtain ⟨sa, sn, sc, rfl⟩ := own_slice rr.1
        have GW : Hid (Chg (fun _ => False) wb v1) := hide (GC.out.trans g')
        have RVL : Hid (Rwi v1 (fun y => wb.drew.heap.size ≤ y ∧ y < v1.heap.size) (.slice sa sn sc) PL) := hide rw1
        have S1 : Hid (wb.drew.heap.size ≤ v1.heap.size) := hide g'.size
        have h0 := g'.cell (fun h => h) h0
        have h1 := g'.cell (fun h => h) h1
        have h2 := g'.cell (fun h => h) h2
        have h3 := g'.cell (fun h => h) h3
        have h4 := g'.cell (fun h => h) h4
        have h5 := g'.cell (fun h => h) h5
        have h6 := g'.cell (fun h => h) h6
        have h7 := g'.cell (fun h => h) h7
        clear g' GC rr eu rw1
        go_simp
        refine hK.out _ _ ⟨h0, h1, h2, h3, h4, h5, h6, h7⟩ (fun hHeld => ?_)
        clear hK K
        try simp only [Act.put, List.getElem_toArray, List.getElem_cons_zero, List.getElem_cons_succ, List.setIfInBounds_toArray, List.set_cons_zero, List.set_cons_succ]
        refine wpAnyH_ready (rs := [3, 4]) (by kernel_rfl) (by simp) ?_
        refine AllReadyH.cons (i := 3) (o := _) rfl (fun K hK => ?_) ?_
        · go_simp
          have GC : Hid (Chg (fun _ => False) wb v1) := hide (GW.out)
          refine (refall_all f.size f (Nat.le_refl _) b k i (.agg #[.slice ba b.len bc, .int .i64 k, .int .i64 i, .slice a f.len cap]) (.slice none 0 0) (fun x => x < P) v1 [] (by have := SMALL.out; omega) (fun x hx => by have := HA.out; have := GC.out.size; omega) (TPb.out.chg GC.out (fun _ _ h => h)) ⟨Il.nil _ _, none, 0, 0, rfl, Nat.le_refl _, Nat.zero_le _⟩ (by have := SMALL.out; simp; omega)).mono ?_
          rintro e v2 ⟨⟨vr, rfl, rr⟩, g'⟩
          rw [HPL.out] at rr
          obtain ⟨ra, rc, rfl, _⟩ := id rr
          have RVL := hide (RVL.out.chg g' (fun _ _ h => h))
          have GW : Hid (Chg (fun _ => False) wb v2) := hide (GC.out.trans g')
          have RVM : Hid (Rws v2 (fun y => y < P ∨ (v1.heap.size ≤ y ∧ y < v2.heap.size)) (.slice ra PL.length rc) PL) := hide rr
          have S2 : Hid (v1.heap.size ≤ v2.heap.size) := hide g'.size
          have h0 := g'.cell (fun h => h) h0
          have h1 := g'.cell (fun h => h) h1
          have h2 := g'.cell (fun h => h) h2
          have h3 := g'.cell (fun h => h) h3
          have h4 := g'.cell (fun h => h) h4
          have h5 := g'.cell (fun h => h) h5
          have h6 := g'.cell (fun h => h) h6
          have h7 := g'.cell (fun h => h) h7
          clear g' GC rr
          go_simp
          refine hK.out _ _ ⟨h0, h1, h2, h3, h4, h5, h6, h7⟩ (fun hHeld => ?_)
          clear hK K
          try simp only [Act.put, List.getElem_toArray, List.getElem_cons_zero, List.getElem_cons_succ, List.setIfInBounds_toArray, List.set_cons_zero, List.set_cons_succ]
          refine wpAnyH_ready (rs := [4]) (by kernel_rfl) (by simp) ?_
          refine AllReadyH.cons (i := 4) (o := _) rfl (fun K hK => ?_) ?_
          rotate_left
          · exact AllReadyH.nil
          go_simp
          have GC : Hid (Chg (fun _ => False) wb v2) := hide (GW.out)
          have GA := (al v2 (.cells #[.slice none 0 0] 49))
          have BO : Hid ((v2.alloc (.cells #[.slice none 0 0] 49)).heap[v2.heap.size]? = some (.cells #[.slice none 0 0] 49)) := hide (blk_new v2 (.cells #[.slice none 0 0] 49))
          have S3 : Hid (v2.heap.size < (v2.alloc (.cells #[.slice none 0 0] 49)).heap.size) := hide (blk_lt BO.out)
          have h0 := GA.cell (fun h => h) h0
          have h1 := GA.cell (fun h => h) h1
          have h2 := GA.cell (fun h => h) h2
          have h3 := GA.cell (fun h => h) h3
          have h4 := GA.cell (fun h => h) h4
          have h5 := GA.cell (fun h => h) h5
          have h6 := GA.cell (fun h => h) h6
          have h7 := GA.cell (fun h => h) h7
          have GW : Hid (Chg (fun _ => False) wb (v2.alloc (.cells #[.slice none 0 0] 49))) := hide (GC.out.trans GA)
          have RVL := hide (RVL.out.chg GA (fun _ _ h => h))
          have RVM := hide (RVM.out.chg GA (fun _ _ h => h))
          clear GA GC
          go_simp
          refine hK.out _ _ ⟨h0, h1, h2, h3, h4, h5, h6, h7⟩ (fun hHeld => ?_)
          clear hK K
          try simp only [Act.put, List.getElem_toArray, List.getElem_cons_zero, List.getElem_cons_succ, List.setIfInBounds_toArray, List.set_cons_zero, List.set_cons_succ]
          obtain ⟨O, hO⟩ : ∃ O, v2.heap.size = O := ⟨_, rfl⟩
          rw [hO] at BO ⊢
          have HOO := hide hO
          clear hO
          generalize (v2.alloc (.cells #[.slice none 0 0] 49)) = v3 at *
          first
            | (refine wpAnyH_take (i := 5) (v := undef) rfl (by kernel_rfl) (by kernel_rfl) (by kernel_rfl) (fun _ _ _ h => h) (Or.inr ⟨by rfl, rfl⟩) (by assumption) ?_)
            | (refine wpAnyH_take (i := 5) (v := ?_) rfl (by kernel_rfl) (by kernel_rfl) (by kernel_rfl) (fun _ _ _ h => h) (Or.inl ⟨by rfl, ?_⟩) (by assumption) ?_
               rotate_left
               (intro w hSw
                (try dsimp only at hSw)
                (go_simp <;> with_reducible rfl)))
          try simp only [Act.put, List.getElem_toArray, List.getElem_cons_zero, List.getElem_cons_succ, List.setIfInBounds_toArray, List.set_cons_zero, List.set_cons_succ]
          have HNO : Hid (A < O ∧ P < O ∧ wb.heap.size ≤ O) := hide (by have h := HOO.out; have := HA.out; have h5 : wb.drew.heap.size = wb.heap.size := rfl; have := S1.out; have := S2.out; have := S3.out; first | omega | (have h2 : wb.heap.size = O := h; omega))
          have TLL : Hid (∀ y, (wb.drew.heap.size ≤ y ∧ y < v1.heap.size) → y < v3.heap.size ∧ ¬ y = O) := hide (fun y hx => by have h := HOO.out; have h5 : wb.drew.heap.size = wb.heap.size := rfl; have := S1.out; have := S2.out; have := S3.out; first | omega | (have h2 : wb.heap.size = O := h; omega))
          have TLM : Hid (∀ y, (y < P ∨ (v1.heap.size ≤ y ∧ y < v2.heap.size)) → y < v3.heap.size ∧ ¬ y = O ∧ y ≠ SS) := hide (fun y hx => by have h := HOO.out; have := HA.out; have := HPS.out; have h5 : wb.drew.heap.size = wb.heap.size := rfl; have := S1.out; have := S2.out; have := S3.out; first | (rcases hx with hx | hx <;> omega) | (have h2 : wb.heap.size = O := h; rcases hx with hx | hx <;> omega))
          have bb0 := blk_cell BO.out 0
          have fb0 := blk_free BO.out 0
          simp only [List.getElem?_toArray, List.getElem?_cons_zero, List.getElem?_cons_succ] at bb0
          have BO2 := hide (blk_set BO.out 0 (.slice ra PL.length rc))
          have GS := hide (Chg.set v3 O 0 (.slice ra PL.length rc))
          refine wpAnyH_ready (rs := [6]) (by kernel_rfl) (by simp) ?_
          refine AllReadyH.cons (i := 6) (o := _) rfl (fun K hK => ?_) ?_
          rotate_left
          · exact AllReadyH.nil
          go_simp
          refine hK.out _ _ ⟨GS.out.cell (by have := HNO.out; omega) h0, GS.out.cell (by have := HNO.out; omega) h1, GS.out.cell (by have := HNO.out; omega) h2, GS.out.cell (by have := HNO.out; omega) h3, GS.out.cell (by have := HNO.out; omega) h4, GS.out.cell (by have := HNO.out; omega) h5, GS.out.cell (by have := HNO.out; omega) h6, GS.out.cell (by have := HNO.out; omega) h7⟩ (fun hHeld => ?_)
          clear hK K
          try simp only [Act.put, List.getElem_toArray, List.getElem_cons_zero, List.getElem_cons_succ, List.setIfInBounds_toArray, List.set_cons_zero, List.set_cons_succ]
          refine wpAnyH_done (by kernel_rfl) ?_ _
          go_wp2_with fail
          go_meet
          exact ⟨O, _, _, rfl, rfl, BO2, hide ((RVL.out.chg GS.out (fun y hy e => (TLL.out y hy).2 e)).up (fun y hy => Nat.lt_of_lt_of_le (TLL.out y hy).1 GS.out.size)), hide ((RVM.out.chg GS.out (fun y hy e => (TLM.out y hy).2.1 e)).up (fun y hy => ⟨Nat.lt_of_lt_of_le (TLM.out y hy).1 GS.out.size, (TLM.out y hy).2.2⟩)), hide ⟨((GW.out.none (S := fun x => x = O)).trans GS.out).mono (fun x hx e => by have := HNO.out; omega), by have := HNO.out; omega⟩⟩
        refine AllReadyH.cons (i := 4) (o := _) rfl (fun K hK => ?_) ?_
        rotate_left
        · exact AllReadyH.nil
        go_simp
        have GC : Hid (Chg (fun _ => False) wb v1) := hide (GW.out)
        have GA := (al v1 (.cells #[.slice none 0 0] 49))
        have BO : Hid ((v1.alloc (.cells #[.slice none 0 0] 49)).heap[v1.heap.size]? = some (.cells #[.slice none 0 0] 49)) := hide (blk_new v1 (.cells #[.slice none 0 0] 49))
        have S2 : Hid (v1.heap.size < (v1.alloc (.cells #[.slice none 0 0] 49)).heap.size) := hide (blk_lt BO.out)
        have h0 := GA.cell (fun h => h) h0
        have h1 := GA.cell (fun h => h) h1
        have h2 := GA.cell (fun h => h) h2
        have h3 := GA.cell (fun h => h) h3
        have h4 := GA.cell (fun h => h) h4
        have h5 := GA.cell (fun h => h) h5
        have h6 := GA.cell (fun h => h) h6
        have h7 := GA.cell (fun h => h) h7
        have GW : Hid (Chg (fun _ => False) wb (v1.alloc (.cells #[.slice none 0 0] 49))) := hide (GC.out.trans GA)
        have RVL := hide (RVL.out.chg GA (fun _ _ h => h))
        clear GA GC
        go_simp
        refine hK.out _ _ ⟨h0, h1, h2, h3, h4, h5, h6, h7⟩ (fun hHeld => ?_)
        clear hK K
        try simp only [Act.put, List.getElem_toArray, List.getElem_cons_zero, List.getElem_cons_succ, List.setIfInBounds_toArray, List.set_cons_zero, List.set_cons_succ]
        obtain ⟨O, hO⟩ : ∃ O, v1.heap.size = O := ⟨_, rfl⟩
        rw [hO] at BO ⊢
        have HOO := hide hO
        clear hO
        generalize (v1.alloc (.cells #[.slice none 0 0] 49)) = v2 at *
        refine wpAnyH_ready (rs := [3]) (by kernel_rfl) (by simp) ?_
        refine AllReadyH.cons (i := 3) (o := _) rfl (fun K hK => ?_) ?_
        rotate_left
        · exact AllReadyH.nil
        go_simp
        have GC : Hid (Chg (fun _ => False) wb v2) := hide (GW.out)
        refine (refall_all f.size f (Nat.le_refl _) b k i (.agg #[.slice ba b.len bc, .int .i64 k, .int .i64 i, .slice a f.len cap]) (.slice none 0 0) (fun x => x < P) v2 [] (by have := SMALL.out; omega) (fun x hx => by have := HA.out; have := GC.out.size; omega) (TPb.out.chg GC.out (fun _ _ h => h)) ⟨Il.nil _ _, none, 0, 0, rfl, Nat.le_refl _, Nat.zero_le _⟩ (by have := SMALL.out; simp; omega)).mono ?_
        rintro e v3 ⟨⟨vr, rfl, rr⟩, g'⟩
        rw [HPL.out] at rr
        obtain ⟨ra, rc, rfl, _⟩ := id rr
        have RVL := hide (RVL.out.chg g' (fun _ _ h => h))
        have BO := hide (g'.blk (fun h => h) BO.out)
        have GW : Hid (Chg (fun _ => False) wb v3) := hide (GC.out.trans g')
        have RVM : Hid (Rws v3 (fun y => y < P ∨ (v2.heap.size ≤ y ∧ y < v3.heap.size)) (.slice ra PL.length rc) PL) := hide rr
        have S3 : Hid (v2.heap.size ≤ v3.heap.size) := hide g'.size
        have h0 := g'.cell (fun h => h) h0
        have h1 := g'.cell (fun h => h) h1
        have h2 := g'.cell (fun h => h) h2
        have h3 := g'.cell (fun h => h) h3
        have h4 := g'.cell (fun h => h) h4
        have h5 := g'.cell (fun h => h) h5
        have h6 := g'.cell (fun h => h) h6
        have h7 := g'.cell (fun h => h) h7
        clear g' GC rr
        go_simp
        refine hK.out _ _ ⟨h0, h1, h2, h3, h4, h5, h6, h7⟩ (fun hHeld => ?_)
        clear hK K
        try simp only [Act.put, List.getElem_toArray, List.getElem_cons_zero, List.getElem_cons_succ, List.setIfInBounds_toArray, List.set_cons_zero, List.set_cons_succ]
        first
          | (refine wpAnyH_take (i := 5) (v := undef) rfl (by kernel_rfl) (by kernel_rfl) (by kernel_rfl) (fun _ _ _ h => h) (Or.inr ⟨by rfl, rfl⟩) (by assumption) ?_)
          | (refine wpAnyH_take (i := 5) (v := ?_) rfl (by kernel_rfl) (by kernel_rfl) (by kernel_rfl) (fun _ _ _ h => h) (Or.inl ⟨by rfl, ?_⟩) (by assumption) ?_
             rotate_left
             (intro w hSw
              (try dsimp only at hSw)
              (go_simp <;> with_reducible rfl)))
        try simp only [Act.put, List.getElem_toArray, List.getElem_cons_zero, List.getElem_cons_succ, List.setIfInBounds_toArray, List.set_cons_zero, List.set_cons_succ]
        have HNO : Hid (A < O ∧ P < O ∧ wb.heap.size ≤ O) := hide (by have h := HOO.out; have := HA.out; have h5 : wb.drew.heap.size = wb.heap.size := rfl; have := S1.out; have := S2.out; have := S3.out; first | omega | (have h2 : wb.heap.size = O := h; omega))
        have TLL : Hid (∀ y, (wb.drew.heap.size ≤ y ∧ y < v1.heap.size) → y < v3.heap.size ∧ ¬ y = O) := hide (fun y hx => by have h := HOO.out; have h5 : wb.drew.heap.size = wb.heap.size := rfl; have := S1.out; have := S2.out; have := S3.out; first | omega | (have h2 : wb.heap.size = O := h; omega))
        have TLM : Hid (∀ y, (y < P ∨ (v2.heap.size ≤ y ∧ y < v3.heap.size)) → y < v3.heap.size ∧ ¬ y = O ∧ y ≠ SS) := hide (fun y hx => by have h := HOO.out; have := HA.out; have := HPS.out; have h5 : wb.drew.heap.size = wb.heap.size := rfl; have := S1.out; have := S2.out; have := S3.out; first | (rcases hx with hx | hx <;> omega) | (have h2 : wb.heap.size = O := h; rcases hx with hx | hx <;> omega))
        have bb0 := blk_cell BO.out 0
        have fb0 := blk_free BO.out 0
        simp only [List.getElem?_toArray, List.getElem?_cons_zero, List.getElem?_cons_succ] at bb0
        have BO2 := hide (blk_set BO.out 0 (.slice ra PL.length rc))
        have GS := hide (Chg.set v3 O 0 (.slice ra PL.length rc))
        refine wpAnyH_ready (rs := [6]) (by kernel_rfl) (by simp) ?_
        refine AllReadyH.cons (i := 6) (o := _) rfl (fun K hK => ?_) ?_
        rotate_left
        · exact AllReadyH.nil
        go_simp
        refine hK.out _ _ ⟨GS.out.cell (by have := HNO.out; omega) h0, GS.out.cell (by have := HNO.out; omega) h1, GS.out.cell (by have := HNO.out; omega) h2, GS.out.cell (by have := HNO.out; omega) h3, GS.out.cell (by have := HNO.out; omega) h4, GS.out.cell (by have := HNO.out; omega) h5, GS.out.cell (by have := HNO.out; omega) h6, GS.out.cell (by have := HNO.out; omega) h7⟩ (fun hHeld => ?_)
        clear hK K
        try simp only [Act.put, List.getElem_toArray, List.getElem_cons_zero, List.getElem_cons_succ, List.setIfInBounds_toArray, List.set_cons_zero, List.set_cons_succ]
        refine wpAnyH_done (by kernel_rfl) ?_ _
        go_wp2_with fail
        go_meet
        exact ⟨O, _, _, rfl, rfl, BO2, hide ((RVL.out.chg GS.out (fun y hy e => (TLL.out y hy).2 e)).up (fun y hy => Nat.lt_of_lt_of_le (TLL.out y hy).1 GS.out.size)), hide ((RVM.out.chg GS.out (fun y hy e => (TLM.out y hy).2.1 e)).up (fun y hy => ⟨Nat.lt_of_lt_of_le (TLM.out y hy).1 GS.out.size, (TLM.out y hy).2.2⟩)), hide ⟨((GW.out.none (S := fun x => x = O)).trans GS.out).mono (fun x hx e => by have := HNO.out; omega), by have := HNO.out; omega⟩⟩
      refine AllReadyH.cons (i := 4) (o := _) rfl (fun K hK => ?_) ?_
      rotate_left
      · exact AllReadyH.nil
      go_simp
      have GC : Hid (Chg (fun _ => False) wb wb.drew) := hide ((Chg.refl (fun _ => False) wb).drew)
      have GA := (al wb (.cells #[.slice none 0 0] 49)).drew
      have BO : Hid ((wb.alloc (.cells #[.slice none 0 0] 49)).drew.heap[wb.heap.size]? = some (.cells #[.slice none 0 0] 49)) := hide (blk_new wb (.cells #[.slice none 0 0] 49))
      have S1 : Hid (wb.heap.size < (wb.alloc (.cells #[.slice none 0 0] 49)).drew.heap.size) := hide (blk_lt BO.out)
      have h0 := GA.cell (fun h => h) h0
      have h1 := GA.cell (fun h => h) h1
      have h2 := GA.cell (fun h => h) h2
      have h3 := GA.cell (fun h => h) h3
      have h4 := GA.cell (fun h => h) h4
      have h5 := GA.cell (fun h => h) h5
      have h6 := GA.cell (fun h => h) h6
      have h7 := GA.cell (fun h => h) h7
      have GW : Hid (Chg (fun _ => False) wb (wb.alloc (.cells #[.slice none 0 0] 49)).drew) := hide GA
      clear GA GC
      go_simp
      refine hK.out _ _ ⟨h0, h1, h2, h3, h4, h5, h6, h7⟩ (fun hHeld => ?_)
      clear hK K
      try simp only [Act.put, List.getElem_toArray, List.getElem_cons_zero, List.getElem_cons_succ, List.setIfInBounds_toArray, List.set_cons_zero, List.set_cons_succ]
      obtain ⟨O, hO⟩ : ∃ O, wb.heap.size = O := ⟨_, rfl⟩
      rw [hO] at BO ⊢
      have HOO := hide hO
      clear hO
      generalize (wb.alloc (.cells #[.slice none 0 0] 49)).drew = v1 at *
      refine wpAnyH_ready (rs := [1]) (by kernel_rfl) (by simp) ?_
      refine AllReadyH.cons (i := 1) (o := _) rfl (fun K hK => ?_) ?_
      rotate_left
      · exact AllReadyH.nil
      go_simp
      have GC : Hid (Chg (fun _ => False) wb v1) := hide (GW.out)
      refine (all_any (b, k, i, f) OK.out (.agg #[.slice aa b.len ac, .int .i64 k, .int .i64 i, .slice ad f.len ae]) (fun x => x < wb.heap.size) v1 (fun x hx => Nat.lt_of_lt_of_le hx GC.out.size) (TAb.out.chg GC.out (fun _ _ h => h))).mono ?_
      rintro e v2 ⟨⟨vr, us, rfl, rr, eu⟩, g'⟩
      have rw1 := rr.rwi
      rw [eu, HPL.out] at rw1
      obtain ⟨sa, sn, sc, rfl⟩ := own_slice rr.1
      have BO := hide (g'.blk (fun h => h) BO.out)
      have GW : Hid (Chg (fun _ => False) wb v2) := hide (GC.out.trans g')
      have RVL : Hid (Rwi v2 (fun y => v1.heap.size ≤ y ∧ y < v2.heap.size) (.slice sa sn sc) PL) := hide rw1
      have S2 : Hid (v1.heap.size ≤ v2.heap.size) := hide g'.size
      have h0 := g'.cell (fun h => h) h0
      have h1 := g'.cell (fun h => h) h1
      have h2 := g'.cell (fun h => h) h2
      have h3 := g'.cell (fun h => h) h3
      have h4 := g'.cell (fun h => h) h4
      have h5 := g'.cell (fun h => h) h5
      have h6 := g'.cell (fun h => h) h6
      have h7 := g'.cell (fun h => h) h7
      clear g' GC rr eu rw1
      go_simp
      refine hK.out _ _ ⟨h0, h1, h2, h3, h4, h5, h6, h7⟩ (fun hHeld => ?_)
      clear hK K
      try simp only [Act.put, List.getElem_toArray, List.getElem_cons_zero, List.getElem_cons_succ, List.setIfInBounds_toArray, List.set_cons_zero, List.set_cons_succ]
      refine wpAnyH_ready (rs := [3]) (by kernel_rfl) (by simp) ?_
      refine AllReadyH.cons (i := 3) (o := _) rfl (fun K hK => ?_) ?_
      rotate_left
      · exact AllReadyH.nil
      go_simp
      have GC : Hid (Chg (fun _ => False) wb v2) := hide (GW.out)
      refine (refall_all f.size f (Nat.le_refl _) b k i (.agg #[.slice ba b.len bc, .int .i64 k, .int .i64 i, .slice a f.len cap]) (.slice none 0 0) (fun x => x < P) v2 [] (by have := SMALL.out; omega) (fun x hx => by have := HA.out; have := GC.out.size; omega) (TPb.out.chg GC.out (fun _ _ h => h)) ⟨Il.nil _ _, none, 0, 0, rfl, Nat.le_refl _, Nat.zero_le _⟩ (by have := SMALL.out; simp; omega)).mono ?_
      rintro e v3 ⟨⟨vr, rfl, rr⟩, g'⟩
      rw [HPL.out] at rr
      obtain ⟨ra, rc, rfl, _⟩ := id rr
      have RVL := hide (RVL.out.chg g' (fun _ _ h => h))
      have BO := hide (g'.blk (fun h => h) BO.out)
      have GW : Hid (Chg (fun _ => False) wb v3) := hide (GC.out.trans g')
      have RVM : Hid (Rws v3 (fun y => y < P ∨ (v2.heap.size ≤ y ∧ y < v3.heap.size)) (.slice ra PL.length rc) PL) := hide rr
      have S3 : Hid (v2.heap.size ≤ v3.heap.size) := hide g'.size
      have h0 := g'.cell (fun h => h) h0
      have h1 := g'.cell (fun h => h) h1
      have h2 := g'.cell (fun h => h) h2
      have h3 := g'.cell (fun h => h) h3
      have h4 := g'.cell (fun h => h) h4
      have h5 := g'.cell (fun h => h) h5
      have h6 := g'.cell (fun h => h) h6
      have h7 := g'.cell (fun h => h) h7
      clear g' GC rr
      go_simp
      refine hK.out _ _ ⟨h0, h1, h2, h3, h4, h5, h6, h7⟩ (fun hHeld => ?_)
      clear hK K
      try simp only [Act.put, List.getElem_toArray, List.getElem_cons_zero, List.getElem_cons_succ, List.setIfInBounds_toArray, List.set_cons_zero, List.set_cons_succ]
      first
        | (refine wpAnyH_take (i := 5) (v := undef) rfl (by kernel_rfl) (by kernel_rfl) (by kernel_rfl) (fun _ _ _ h => h) (Or.inr ⟨by rfl, rfl⟩) (by assumption) ?_)
        | (refine wpAnyH_take (i := 5) (v := ?_) rfl (by kernel_rfl) (by kernel_rfl) (by kernel_rfl) (fun _ _ _ h => h) (Or.inl ⟨by rfl, ?_⟩) (by assumption) ?_
           rotate_left
           (intro w hSw
            (try dsimp only at hSw)
            (go_simp <;> with_reducible rfl)))
      try simp only [Act.put, List.getElem_toArray, List.getElem_cons_zero, List.getElem_cons_succ, List.setIfInBounds_toArray, List.set_cons_zero, List.set_cons_succ]
      have HNO : Hid (A < O ∧ P < O ∧ wb.heap.size ≤ O) := hide (by have h := HOO.out; have := HA.out; have h5 : wb.drew.heap.size = wb.heap.size := rfl; have := S1.out; have := S2.out; have := S3.out; first | omega | (have h2 : wb.heap.size = O := h; omega))
      have TLL : Hid (∀ y, (v1.heap.size ≤ y ∧ y < v2.heap.size) → y < v3.heap.size ∧ ¬ y = O) := hide (fun y hx => by have h := HOO.out; have h5 : wb.drew.heap.size = wb.heap.size := rfl; have := S1.out; have := S2.out; have := S3.out; first | omega | (have h2 : wb.heap.size = O := h; omega))
      have TLM : Hid (∀ y, (y < P ∨ (v2.heap.size ≤ y ∧ y < v3.heap.size)) → y < v3.heap.size ∧ ¬ y = O ∧ y ≠ SS) := hide (fun y hx => by have h := HOO.out; have := HA.out; have := HPS.out; have h5 : wb.drew.heap.size = wb.heap.size := rfl; have := S1.out; have := S2.out; have := S3.out; first | (rcases hx with hx | hx <;> omega) | (have h2 : wb.heap.size = O := h; rcases hx with hx | hx <;> omega))
      have bb0 := blk_cell BO.out 0
      have fb0 := blk_free BO.out 0
      simp only [List.getElem?_toArray, List.getElem?_cons_zero, List.getElem?_cons_succ] at bb0
      have BO2 := hide (blk_set BO.out 0 (.slice ra PL.length rc))
      have GS := hide (Chg.set v3 O 0 (.slice ra PL.length rc))
      refine wpAnyH_ready (rs := [6]) (by kernel_rfl) (by simp) ?_
      refine AllReadyH.cons (i := 6) (o := _) rfl (fun K hK => ?_) ?_
      rotate_left
      · exact AllReadyH.nil
      go_simp
      refine hK.out _ _ ⟨GS.out.cell (by have := HNO.out; omega) h0, GS.out.cell (by have := HNO.out; omega) h1, GS.out.cell (by have := HNO.out; omega) h2, GS.out.cell (by have := HNO.out; omega) h3, GS.out.cell (by have := HNO.out; omega) h4, GS.out.cell (by have := HNO.out; omega) h5, GS.out.cell (by have := HNO.out; omega) h6, GS.out.cell (by have := HNO.out; omega) h7⟩ (fun hHeld => ?_)
      clear hK K
      try simp only [Act.put, List.getElem_toArray, List.getElem_cons_zero, List.getElem_cons_succ, List.setIfInBounds_toArray, List.set_cons_zero, List.set_cons_succ]
      refine wpAnyH_done (by kernel_rfl) ?_ _
      go_wp2_with fail
      go_meet
      exact ⟨O, _, _, rfl, rfl, BO2, hide ((RVL.out.chg GS.out (fun y hy e => (TLL.out y hy).2 e)).up (fun y hy => Nat.lt_of_lt_of_le (TLL.out y hy).1 GS.out.size)), hide ((RVM.out.chg GS.out (fun y hy e => (TLM.out y hy).2.1 e)).up (fun y hy => ⟨Nat.lt_of_lt_of_le (TLM.out y hy).1 GS.out.size, (TLM.out y hy).2.2⟩)), hide ⟨((GW.out.none (S := fun x => x = O)).trans GS.out).mono (fun x hx e => by have := HNO.out; omega), by have := HNO.out; omega⟩⟩
    case rest =>
    obtain ⟨M, vl, vm, e6, rfl, BM, RL, RM, GM⟩ := hcut
    subst e6
    generalize wc = w6 at *
    replace G := hide (G.out.trans GM.out.1)
    replace BP := hide (GM.out.1.blk (fun h => h) BP.out)
    replace BS := hide (GM.out.1.blk (fun h => h) BS.out)
    replace BA := hide (GM.out.1.blk (fun h => h) BA.out)
    have TA6 : Hid (TV w6 (fun x => SS < x ∧ x < A) (.agg #[.slice aa b.len ac, .int .i64 k, .int .i64 i, .slice ad f.len ae]) (b, k, i, f)) := hide (TA.out.chg GM.out.1 (fun _ _ h => h))
    have HM : Hid (P < SS ∧ SS < A ∧ A < M ∧ M < w6.heap.size ∧ w.heap.size = P) := hide ⟨HA.out.1, HA.out.2.1, by have := HA.out; have := GM.out.2; omega, blk_lt BM.out, HP.out.2.2⟩
    clear TA TAb TPb GM h0 h1 h2 h3 h4 h5 h6 h7
    obtain ⟨la, lc, hvl, hrl⟩ := RL.out
    obtain ⟨ma, mc, hvm, hrm⟩ := RM.out
    subst hvl hvm
    have hPLne : PL ≠ [] := fun e => by have := HLEN.out; rw [e] at this; simp at this; omega
    rcases hrl with hrl | ⟨gl, ol, rfl, hgl, hcl⟩
    · exact absurd hrl hPLne
    rcases hrm with hrm | ⟨gm, om, rfl, hgm, hcm⟩
    · exact absurd hrm hPLne
    have HCL := hide hcl
    have HCM := hide hcm
    have HGM : Hid (gl < w6.heap.size ∧ gm < w6.heap.size ∧ gm ≠ SS) := hide ⟨hgl, hgm.1, hgm.2⟩
    have RMS : Hid (∀ x, (x < w6.heap.size ∧ x ≠ SS) → ¬ x = SS) := hide (fun x hx e => hx.2 e)
    have xM : w6.cell? ⟨M, 0, none⟩ = some (.slice (some ⟨gm, om, none⟩) PL.length mc) := blk_cell BM.out 0
    clear hcl hcm hgl hgm hPLne
    go_upto_block 0 with fail
    go_cut [8] (fun s8 wx => Hid (Chg (fun _ => False) w6 wx))
    case first =>
      go_wp2_with fail
      go_loopw [8] (fun iv wr => ∃ (j : Nat), j ≤ PL.length ∧ iv = .int .i64 j ∧ Hid (Chg (fun _ => False) w6 wr)) (fun iv _ => PL.length - (intOf iv).toNat)
      case atStart => exact ⟨0, Nat.zero_le _, rfl, hide (Chg.refl _ _)⟩
      case round =>
        obtain ⟨j, hj, rfl, hC⟩ := hrel
        have hlen : PL.length ≤ 150 := HLEN.out.2
        by_cases hlt : j < PL.length
        · have j1 : (0 : Int) ≤ (j : Int) := by omega
          have j2 : (j : Int) < (PL.length : Int) := by omega
          obtain ⟨u1, c1, l1⟩ := HCL.out j hlt
          obtain ⟨u2, c2, l2⟩ := HCM.out j hlt
          have hjl := hide (pl_len HPL.out SMALL.out hlt)
          have z1 := hC.out.cell (fun h => h) c1
          have z2 := hC.out.cell (fun h => h) c2
          have z3 := hC.out.cell (fun h => h) xM
          have D := hide ((Chg.refl (fun _ => False) wr).drew)
          have I1 := hide ((l1.chg (hC.out.trans D.out) (fun _ _ h => h)).up (Y := fun y => y < wr.drew.heap.size) (fun y hy => Nat.lt_of_lt_of_le hy (hC.out.trans D.out).size))
          have I2 := hide ((l2.1.chg (hC.out.trans D.out) (fun _ _ h => h)).up (Y := fun y => y < wr.drew.heap.size) (fun y hy => Nat.lt_of_lt_of_le hy.1 (hC.out.trans D.out).size))
          have SM := hide (rsame_any PL[j] PL[j] (by have := hjl.out; omega) (by have := hjl.out; omega) u1 u2 _ wr.drew I1.out I2.out)
          rw [cmpL_self] at SM
          rw [show ((0 : Int) == 0) = true from rfl] at SM
          cases j with
          | zero =>
            clear c1 c2 l1 l2 I2
            rw [Nat.add_zero] at z1 z2
            go_upto_region 10 with fail
            refine wp_region_held_drew (S := (fun w' => w'.cell? ⟨gl, ol, none⟩ = some u1 ∧ w'.cell? ⟨gm, om, none⟩ = some u2 ∧ w'.cell? ⟨M, 0, none⟩ = some (.slice (some ⟨gm, om, none⟩) PL.length mc))) (by kernel_rfl) (by go_keep) (fun hHeld => ?_)
            first
              | (refine wpAnyH_take (i := 0) (v := undef) rfl (by kernel_rfl) (by kernel_rfl) (by kernel_rfl) (fun _ _ _ h => h) (Or.inr ⟨by rfl, rfl⟩) (by assumption) ?_)
              | (refine wpAnyH_take (i := 0) (v := ?_) rfl (by kernel_rfl) (by kernel_rfl) (by kernel_rfl) (fun _ _ _ h => h) (Or.inl ⟨by rfl, ?_⟩) (by assumption) ?_
                 rotate_left
                 (intro w hSw
                  (try dsimp only at hSw)
                  (go_simp <;> with_reducible rfl)))
            try simp only [Act.put, List.getElem_toArray, List.getElem_cons_zero, List.getElem_cons_succ, List.setIfInBounds_toArray, List.set_cons_zero, List.set_cons_succ]
            first
              | (refine wpAnyH_take (i := 1) (v := undef) rfl (by kernel_rfl) (by kernel_rfl) (by kernel_rfl) (fun _ _ _ h => h) (Or.inr ⟨by rfl, rfl⟩) (by assumption) ?_)
              | (refine wpAnyH_take (i := 1) (v := ?_) rfl (by kernel_rfl) (by kernel_rfl) (by kernel_rfl) (fun _ _ _ h => h) (Or.inl ⟨by rfl, ?_⟩) (by assumption) ?_
                 rotate_left
                 (intro w hSw
                  (try dsimp only at hSw)
                  (go_simp <;> with_reducible rfl)))
            try simp only [Act.put, List.getElem_toArray, List.getElem_cons_zero, List.getElem_cons_succ, List.setIfInBounds_toArray, List.set_cons_zero, List.set_cons_succ]
            first
              | (refine wpAnyH_take (i := 2) (v := undef) rfl (by kernel_rfl) (by kernel_rfl) (by kernel_rfl) (fun _ _ _ h => h) (Or.inr ⟨by rfl, rfl⟩) (by assumption) ?_)
              | (refine wpAnyH_take (i := 2) (v := ?_) rfl (by kernel_rfl) (by kernel_rfl) (by kernel_rfl) (fun _ _ _ h => h) (Or.inl ⟨by rfl, ?_⟩) (by assumption) ?_
                 rotate_left
                 (intro w hSw
                  (try dsimp only at hSw)
                  (go_simp <;> with_reducible rfl)))
            try simp only [Act.put, List.getElem_toArray, List.getElem_cons_zero, List.getElem_cons_succ, List.setIfInBounds_toArray, List.set_cons_zero, List.set_cons_succ]
            first
              | (refine wpAnyH_take (i := 3) (v := undef) rfl (by kernel_rfl) (by kernel_rfl) (by kernel_rfl) (fun _ _ _ h => h) (Or.inr ⟨by rfl, rfl⟩) (by assumption) ?_)
              | (refine wpAnyH_take (i := 3) (v := ?_) rfl (by kernel_rfl) (by kernel_rfl) (by kernel_rfl) (fun _ _ _ h => h) (Or.inl ⟨by rfl, ?_⟩) (by assumption) ?_
                 rotate_left
                 (intro w hSw
                  (try dsimp only at hSw)
                  (go_simp <;> with_reducible rfl)))
            try simp only [Act.put, List.getElem_toArray, List.getElem_cons_zero, List.getElem_cons_succ, List.setIfInBounds_toArray, List.set_cons_zero, List.set_cons_succ]
            first
              | (refine wpAnyH_take (i := 4) (v := undef) rfl (by kernel_rfl) (by kernel_rfl) (by kernel_rfl) (fun _ _ _ h => h) (Or.inr ⟨by rfl, rfl⟩) (by assumption) ?_)
              | (refine wpAnyH_take (i := 4) (v := ?_) rfl (by kernel_rfl) (by kernel_rfl) (by kernel_rfl) (fun _ _ _ h => h) (Or.inl ⟨by rfl, ?_⟩) (by assumption) ?_
                 rotate_left
                 (intro w hSw
                  (try dsimp only at hSw)
                  (go_simp <;> with_reducible rfl)))
            try simp only [Act.put, List.getElem_toArray, List.getElem_cons_zero, List.getElem_cons_succ, List.setIfInBounds_toArray, List.set_cons_zero, List.set_cons_succ]
            first
              | (refine wpAnyH_take (i := 5) (v := undef) rfl (by kernel_rfl) (by kernel_rfl) (by kernel_rfl) (fun _ _ _ h => h) (Or.inr ⟨by rfl, rfl⟩) (by assumption) ?_)
              | (refine wpAnyH_take (i := 5) (v := ?_) rfl (by kernel_rfl) (by kernel_rfl) (by kernel_rfl) (fun _ _ _ h => h) (Or.inl ⟨by rfl, ?_⟩) (by assumption) ?_
                 rotate_left
                 (intro w hSw
                  (try dsimp only at hSw)
                  (go_simp <;> with_reducible rfl)))
            try simp only [Act.put, List.getElem_toArray, List.getElem_cons_zero, List.getElem_cons_succ, List.setIfInBounds_toArray, List.set_cons_zero, List.set_cons_succ]
            first
              | (refine wpAnyH_take (i := 6) (v := undef) rfl (by kernel_rfl) (by kernel_rfl) (by kernel_rfl) (fun _ _ _ h => h) (Or.inr ⟨by rfl, rfl⟩) (by assumption) ?_)
              | (refine wpAnyH_take (i := 6) (v := ?_) rfl (by kernel_rfl) (by kernel_rfl) (by kernel_rfl) (fun _ _ _ h => h) (Or.inl ⟨by rfl, ?_⟩) (by assumption) ?_
                 rotate_left
                 (intro w hSw
                  (try dsimp only at hSw)
                  (go_simp <;> with_reducible rfl)))
            try simp only [Act.put, List.getElem_toArray, List.getElem_cons_zero, List.getElem_cons_succ, List.setIfInBounds_toArray, List.set_cons_zero, List.set_cons_succ]
            first
              | (refine wpAnyH_take (i := 7) (v := undef) rfl (by kernel_rfl) (by kernel_rfl) (by kernel_rfl) (fun _ _ _ h => h) (Or.inr ⟨by rfl, rfl⟩) (by assumption) ?_)
              | (refine wpAnyH_take (i := 7) (v := ?_) rfl (by kernel_rfl) (by kernel_rfl) (by kernel_rfl) (fun _ _ _ h => h) (Or.inl ⟨by rfl, ?_⟩) (by assumption) ?_
                 rotate_left
                 (intro w hSw
                  (try dsimp only at hSw)
                  (go_simp <;> with_reducible rfl)))
            try simp only [Act.put, List.getElem_toArray, List.getElem_cons_zero, List.getElem_cons_succ, List.setIfInBounds_toArray, List.set_cons_zero, List.set_cons_succ]
            refine wpAnyH_ready (rs := [8]) (by kernel_rfl) (by simp) ?_
            refine AllReadyH.cons (i := 8) (o := _) rfl (fun K hK => ?_) ?_
            rotate_left
            · exact AllReadyH.nil
            go_simp
            refine SM.out.mono ?_
            rintro e y1 ⟨rfl, g'⟩
            have g1 := D.out.trans g'
            have z1 := g1.cell (fun h => h) z1
            have z2 := g1.cell (fun h => h) z2
            have z3 := g1.cell (fun h => h) z3
            have GY := hide (hC.out.trans g1)
            have GD := hide g'
            clear g' g1
            go_simp
            refine hK.out _ _ ⟨z1, z2, z3⟩ (fun hHeld => ?_)
            clear hK K
            try simp only [Act.put, List.getElem_toArray, List.getElem_cons_zero, List.getElem_cons_succ, List.setIfInBounds_toArray, List.set_cons_zero, List.set_cons_succ]
            first
              | (refine wpAnyH_take (i := 9) (v := undef) rfl (by kernel_rfl) (by kernel_rfl) (by kernel_rfl) (fun _ _ _ h => h) (Or.inr ⟨by rfl, rfl⟩) (by assumption) ?_)
              | (refine wpAnyH_take (i := 9) (v := ?_) rfl (by kernel_rfl) (by kernel_rfl) (by kernel_rfl) (fun _ _ _ h => h) (Or.inl ⟨by rfl, ?_⟩) (by assumption) ?_
                 rotate_left
                 (intro w hSw
                  (try dsimp only at hSw)
                  (go_simp <;> with_reducible rfl)))
            try simp only [Act.put, List.getElem_toArray, List.getElem_cons_zero, List.getElem_cons_succ, List.setIfInBounds_toArray, List.set_cons_zero, List.set_cons_succ]
            first
              | (refine wpAnyH_take (i := 10) (v := undef) rfl (by kernel_rfl) (by kernel_rfl) (by kernel_rfl) (fun _ _ _ h => h) (Or.inr ⟨by rfl, rfl⟩) (by assumption) ?_)
              | (refine wpAnyH_take (i := 10) (v := ?_) rfl (by kernel_rfl) (by kernel_rfl) (by kernel_rfl) (fun _ _ _ h => h) (Or.inl ⟨by rfl, ?_⟩) (by assumption) ?_
                 rotate_left
                 (intro w hSw
                  (try dsimp only at hSw)
                  (go_simp <;> with_reducible rfl)))
            try simp only [Act.put, List.getElem_toArray, List.getElem_cons_zero, List.getElem_cons_succ, List.setIfInBounds_toArray, List.set_cons_zero, List.set_cons_succ]
            first
              | (refine wpAnyH_take (i := 11) (v := undef) rfl (by kernel_rfl) (by kernel_rfl) (by kernel_rfl) (fun _ _ _ h => h) (Or.inr ⟨by rfl, rfl⟩) (by assumption) ?_)
              | (refine wpAnyH_take (i := 11) (v := ?_) rfl (by kernel_rfl) (by kernel_rfl) (by kernel_rfl) (fun _ _ _ h => h) (Or.inl ⟨by rfl, ?_⟩) (by assumption) ?_
                 rotate_left
                 (intro w hSw
                  (try dsimp only at hSw)
                  (go_simp <;> with_reducible rfl)))
            try simp only [Act.put, List.getElem_toArray, List.getElem_cons_zero, List.getElem_cons_succ, List.setIfInBounds_toArray, List.set_cons_zero, List.set_cons_succ]
            first
              | (refine wpAnyH_take (i := 12) (v := undef) rfl (by kernel_rfl) (by kernel_rfl) (by kernel_rfl) (fun _ _ _ h => h) (Or.inr ⟨by rfl, rfl⟩) (by assumption) ?_)
              | (refine wpAnyH_take (i := 12) (v := ?_) rfl (by kernel_rfl) (by kernel_rfl) (by kernel_rfl) (fun _ _ _ h => h) (Or.inl ⟨by rfl, ?_⟩) (by assumption) ?_
                 rotate_left
                 (intro w hSw
                  (try dsimp only at hSw)
                  (go_simp <;> with_reducible rfl)))
            try simp only [Act.put, List.getElem_toArray, List.getElem_cons_zero, List.getElem_cons_succ, List.setIfInBounds_toArray, List.set_cons_zero, List.set_cons_succ]
            first
              | (refine wpAnyH_take (i := 13) (v := undef) rfl (by kernel_rfl) (by kernel_rfl) (by kernel_rfl) (fun _ _ _ h => h) (Or.inr ⟨by rfl, rfl⟩) (by assumption) ?_)
              | (refine wpAnyH_take (i := 13) (v := ?_) rfl (by kernel_rfl) (by kernel_rfl) (by kernel_rfl) (fun _ _ _ h => h) (Or.inl ⟨by rfl, ?_⟩) (by assumption) ?_
                 rotate_left
                 (intro w hSw
                  (try dsimp only at hSw)
                  (go_simp <;> with_reducible rfl)))
            try simp only [Act.put, List.getElem_toArray, List.getElem_cons_zero, List.getElem_cons_succ, List.setIfInBounds_toArray, List.set_cons_zero, List.set_cons_succ]
            first
              | (refine wpAnyH_take (i := 14) (v := undef) rfl (by kernel_rfl) (by kernel_rfl) (by kernel_rfl) (fun _ _ _ h => h) (Or.inr ⟨by rfl, rfl⟩) (by assumption) ?_)
              | (refine wpAnyH_take (i := 14) (v := ?_) rfl (by kernel_rfl) (by kernel_rfl) (by kernel_rfl) (fun _ _ _ h => h) (Or.inl ⟨by rfl, ?_⟩) (by assumption) ?_
                 rotate_left
                 (intro w hSw
                  (try dsimp only at hSw)
                  (go_simp <;> with_reducible rfl)))
            try simp only [Act.put, List.getElem_toArray, List.getElem_cons_zero, List.getElem_cons_succ, List.setIfInBounds_toArray, List.set_cons_zero, List.set_cons_succ]
            first
              | (refine wpAnyH_take (i := 15) (v := undef) rfl (by kernel_rfl) (by kernel_rfl) (by kernel_rfl) (fun _ _ _ h => h) (Or.inr ⟨by rfl, rfl⟩) (by assumption) ?_)
              | (refine wpAnyH_take (i := 15) (v := ?_) rfl (by kernel_rfl) (by kernel_rfl) (by kernel_rfl) (fun _ _ _ h => h) (Or.inl ⟨by rfl, ?_⟩) (by assumption) ?_
                 rotate_left
                 (intro w hSw
                  (try dsimp only at hSw)
                  (go_simp <;> with_reducible rfl)))
            try simp only [Act.put, List.getElem_toArray, List.getElem_cons_zero, List.getElem_cons_succ, List.setIfInBounds_toArray, List.set_cons_zero, List.set_cons_succ]
            first
              | (refine wpAnyH_take (i := 16) (v := undef) rfl (by kernel_rfl) (by kernel_rfl) (by kernel_rfl) (fun _ _ _ h => h) (Or.inr ⟨by rfl, rfl⟩) (by assumption) ?_)
              | (refine wpAnyH_take (i := 16) (v := ?_) rfl (by kernel_rfl) (by kernel_rfl) (by kernel_rfl) (fun _ _ _ h => h) (Or.inl ⟨by rfl, ?_⟩) (by assumption) ?_
                 rotate_left
                 (intro w hSw
                  (try dsimp only at hSw)
                  (go_simp <;> with_reducible rfl)))
            try simp only [Act.put, List.getElem_toArray, List.getElem_cons_zero, List.getElem_cons_succ, List.setIfInBounds_toArray, List.set_cons_zero, List.set_cons_succ]
            first
              | (refine wpAnyH_take (i := 17) (v := undef) rfl (by kernel_rfl) (by kernel_rfl) (by kernel_rfl) (fun _ _ _ h => h) (Or.inr ⟨by rfl, rfl⟩) (by assumption) ?_)
              | (refine wpAnyH_take (i := 17) (v := ?_) rfl (by kernel_rfl) (by kernel_rfl) (by kernel_rfl) (fun _ _ _ h => h) (Or.inl ⟨by rfl, ?_⟩) (by assumption) ?_
                 rotate_left
                 (intro w hSw
                  (try dsimp only at hSw)
                  (go_simp <;> with_reducible rfl)))
            try simp only [Act.put, List.getElem_toArray, List.getElem_cons_zero, List.getElem_cons_succ, List.setIfInBounds_toArray, List.set_cons_zero, List.set_cons_succ]
            first
              | (refine wpAnyH_take (i := 18) (v := undef) rfl (by kernel_rfl) (by kernel_rfl) (by kernel_rfl) (fun _ _ _ h => h) (Or.inr ⟨by rfl, rfl⟩) (by assumption) ?_)
              | (refine wpAnyH_take (i := 18) (v := ?_) rfl (by kernel_rfl) (by kernel_rfl) (by kernel_rfl) (fun _ _ _ h => h) (Or.inl ⟨by rfl, ?_⟩) (by assumption) ?_
                 rotate_left
                 (intro w hSw
                  (try dsimp only at hSw)
                  (go_simp <;> with_reducible rfl)))
            try simp only [Act.put, List.getElem_toArray, List.getElem_cons_zero, List.getElem_cons_succ, List.setIfInBounds_toArray, List.set_cons_zero, List.set_cons_succ]
            first
              | (refine wpAnyH_take (i := 19) (v := undef) rfl (by kernel_rfl) (by kernel_rfl) (by kernel_rfl) (fun _ _ _ h => h) (Or.inr ⟨by rfl, rfl⟩) (by assumption) ?_)
              | (refine wpAnyH_take (i := 19) (v := ?_) rfl (by kernel_rfl) (by kernel_rfl) (by kernel_rfl) (fun _ _ _ h => h) (Or.inl ⟨by rfl, ?_⟩) (by assumption) ?_
                 rotate_left
                 (intro w hSw
                  (try dsimp only at hSw)
                  (go_simp <;> with_reducible rfl)))
            try simp only [Act.put, List.getElem_toArray, List.getElem_cons_zero, List.getElem_cons_succ, List.setIfInBounds_toArray, List.set_cons_zero, List.set_cons_succ]
            first
              | (refine wpAnyH_take (i := 20) (v := undef) rfl (by kernel_rfl) (by kernel_rfl) (by kernel_rfl) (fun _ _ _ h => h) (Or.inr ⟨by rfl, rfl⟩) (by assumption) ?_)
              | (refine wpAnyH_take (i := 20) (v := ?_) rfl (by kernel_rfl) (by kernel_rfl) (by kernel_rfl) (fun _ _ _ h => h) (Or.inl ⟨by rfl, ?_⟩) (by assumption) ?_
                 rotate_left
                 (intro w hSw
                  (try dsimp only at hSw)
                  (go_simp <;> with_reducible rfl)))
            try simp only [Act.put, List.getElem_toArray, List.getElem_cons_zero, List.getElem_cons_succ, List.setIfInBounds_toArray, List.set_cons_zero, List.set_cons_succ]
            first
              | (refine wpAnyH_take (i := 21) (v := undef) rfl (by kernel_rfl) (by kernel_rfl) (by kernel_rfl) (fun _ _ _ h => h) (Or.inr ⟨by rfl, rfl⟩) (by assumption) ?_)
              | (refine wpAnyH_take (i := 21) (v := ?_) rfl (by kernel_rfl) (by kernel_rfl) (by kernel_rfl) (fun _ _ _ h => h) (Or.inl ⟨by rfl, ?_⟩) (by assumption) ?_
                 rotate_left
                 (intro w hSw
                  (try dsimp only at hSw)
                  (go_simp <;> with_reducible rfl)))
            try simp only [Act.put, List.getElem_toArray, List.getElem_cons_zero, List.getElem_cons_succ, List.setIfInBounds_toArray, List.set_cons_zero, List.set_cons_succ]
            first
              | (refine wpAnyH_take (i := 22) (v := undef) rfl (by kernel_rfl) (by kernel_rfl) (by kernel_rfl) (fun _ _ _ h => h) (Or.inr ⟨by rfl, rfl⟩) (by assumption) ?_)
              | (refine wpAnyH_take (i := 22) (v := ?_) rfl (by kernel_rfl) (by kernel_rfl) (by kernel_rfl) (fun _ _ _ h => h) (Or.inl ⟨by rfl, ?_⟩) (by assumption) ?_
                 rotate_left
                 (intro w hSw
                  (try dsimp only at hSw)
                  (go_simp <;> with_reducible rfl)))
            try simp only [Act.put, List.getElem_toArray, List.getElem_cons_zero, List.getElem_cons_succ, List.setIfInBounds_toArray, List.set_cons_zero, List.set_cons_succ]
            first
              | (refine wpAnyH_take (i := 23) (v := undef) rfl (by kernel_rfl) (by kernel_rfl) (by kernel_rfl) (fun _ _ _ h => h) (Or.inr ⟨by rfl, rfl⟩) (by assumption) ?_)
              | (refine wpAnyH_take (i := 23) (v := ?_) rfl (by kernel_rfl) (by kernel_rfl) (by kernel_rfl) (fun _ _ _ h => h) (Or.inl ⟨by rfl, ?_⟩) (by assumption) ?_
                 rotate_left
                 (intro w hSw
                  (try dsimp only at hSw)
                  (go_simp <;> with_reducible rfl)))
            try simp only [Act.put, List.getElem_toArray, List.getElem_cons_zero, List.getElem_cons_succ, List.setIfInBounds_toArray, List.set_cons_zero, List.set_cons_succ]
            first
              | (refine wpAnyH_take (i := 24) (v := undef) rfl (by kernel_rfl) (by kernel_rfl) (by kernel_rfl) (fun _ _ _ h => h) (Or.inr ⟨by rfl, rfl⟩) (by assumption) ?_)
              | (refine wpAnyH_take (i := 24) (v := ?_) rfl (by kernel_rfl) (by kernel_rfl) (by kernel_rfl) (fun _ _ _ h => h) (Or.inl ⟨by rfl, ?_⟩) (by assumption) ?_
                 rotate_left
                 (intro w hSw
                  (try dsimp only at hSw)
                  (go_simp <;> with_reducible rfl)))
            try simp only [Act.put, List.getElem_toArray, List.getElem_cons_zero, List.getElem_cons_succ, List.setIfInBounds_toArray, List.set_cons_zero, List.set_cons_succ]
            first
              | (refine wpAnyH_take (i := 25) (v := undef) rfl (by kernel_rfl) (by kernel_rfl) (by kernel_rfl) (fun _ _ _ h => h) (Or.inr ⟨by rfl, rfl⟩) (by assumption) ?_)
              | (refine wpAnyH_take (i := 25) (v := ?_) rfl (by kernel_rfl) (by kernel_rfl) (by kernel_rfl) (fun _ _ _ h => h) (Or.inl ⟨by rfl, ?_⟩) (by assumption) ?_
                 rotate_left
                 (intro w hSw
                  (try dsimp only at hSw)
                  (go_simp <;> with_reducible rfl)))
            try simp only [Act.put, List.getElem_toArray, List.getElem_cons_zero, List.getElem_cons_succ, List.setIfInBounds_toArray, List.set_cons_zero, List.set_cons_succ]
            first
              | (refine wpAnyH_take (i := 26) (v := undef) rfl (by kernel_rfl) (by kernel_rfl) (by kernel_rfl) (fun _ _ _ h => h) (Or.inr ⟨by rfl, rfl⟩) (by assumption) ?_)
              | (refine wpAnyH_take (i := 26) (v := ?_) rfl (by kernel_rfl) (by kernel_rfl) (by kernel_rfl) (fun _ _ _ h => h) (Or.inl ⟨by rfl, ?_⟩) (by assumption) ?_
                 rotate_left
                 (intro w hSw
                  (try dsimp only at hSw)
                  (go_simp <;> with_reducible rfl)))
            try simp only [Act.put, List.getElem_toArray, List.getElem_cons_zero, List.getElem_cons_succ, List.setIfInBounds_toArray, List.set_cons_zero, List.set_cons_succ]
            refine wpAnyH_done (by kernel_rfl) ?_ _
            go_wp2_with fail
            go_roundw
            case rel => exact ⟨1, by omega, by go_num, GY⟩
            case measure => simp [intOf]; omega
          | succ j =>
            obtain ⟨u0, c0, l0⟩ := HCL.out j (by omega)
            have z4 := hC.out.cell (fun h => h) c0
            have I0 := hide ((l0.chg (hC.out.trans D.out) (fun _ _ h => h)).up (Y := fun y => y < wr.drew.heap.size) (fun y hy => Nat.lt_of_lt_of_le hy (hC.out.trans D.out).size))
            have hjl0 := hide (pl_len HPL.out SMALL.out (show j < PL.length by omega))
            have NX := hide (pl_next HPL.out hlt)
            have e2 : ((j + 1 : Nat) : Int) = (j : Int) + 1 := by omega
            have e3 : (j : Int) + 1 - 1 = (j : Int) := by omega
            have j3 : (j : Int) < (PL.length : Int) := by omega
            have j4 : (0 : Int) ≤ (j : Int) := by omega
            have e4 : IntKind.i64.wrap (j : Int) = (j : Int) := wrap_small (by omega) (by omega)
            rw [e2]
            rw [e2] at j1 j2
            clear c0 c1 c2 l0 l1 l2 I2
            go_upto_region 10 with fail
            refine wp_region_held_drew (S := (fun w' => w'.cell? ⟨gl, ol + (j + 1), none⟩ = some u1 ∧ w'.cell? ⟨gm, om + (j + 1), none⟩ = some u2 ∧ w'.cell? ⟨M, 0, none⟩ = some (.slice (some ⟨gm, om, none⟩) PL.length mc) ∧ w'.cell? ⟨gl, ol + j, none⟩ = some u0)) (by kernel_rfl) (by go_keep) (fun hHeld => ?_)
            first
              | (refine wpAnyH_take (i := 0) (v := undef) rfl (by kernel_rfl) (by kernel_rfl) (by kernel_rfl) (fun _ _ _ h => h) (Or.inr ⟨by rfl, rfl⟩) (by assumption) ?_)
              | (refine wpAnyH_take (i := 0) (v := ?_) rfl (by kernel_rfl) (by kernel_rfl) (by kernel_rfl) (fun _ _ _ h => h) (Or.inl ⟨by rfl, ?_⟩) (by assumption) ?_
                 rotate_left
                 (intro w hSw
                  (try dsimp only at hSw)
                  (go_simp <;> with_reducible rfl)))
            try simp only [Act.put, List.getElem_toArray, List.getElem_cons_zero, List.getElem_cons_succ, List.setIfInBounds_toArray, List.set_cons_zero, List.set_cons_succ]
            first
              | (refine wpAnyH_take (i := 1) (v := undef) rfl (by kernel_rfl) (by kernel_rfl) (by kernel_rfl) (fun _ _ _ h => h) (Or.inr ⟨by rfl, rfl⟩) (by assumption) ?_)
              | (refine wpAnyH_take (i := 1) (v := ?_) rfl (by kernel_rfl) (by kernel_rfl) (by kernel_rfl) (fun _ _ _ h => h) (Or.inl ⟨by rfl, ?_⟩) (by assumption) ?_
                 rotate_left
                 (intro w hSw
                  (try dsimp only at hSw)
                  (go_simp <;> with_reducible rfl)))
            try simp only [Act.put, List.getElem_toArray, List.getElem_cons_zero, List.getElem_cons_succ, List.setIfInBounds_toArray, List.set_cons_zero, List.set_cons_succ]
            first
              | (refine wpAnyH_take (i := 2) (v := undef) rfl (by kernel_rfl) (by kernel_rfl) (by kernel_rfl) (fun _ _ _ h => h) (Or.inr ⟨by rfl, rfl⟩) (by assumption) ?_)
              | (refine wpAnyH_take (i := 2) (v := ?_) rfl (by kernel_rfl) (by kernel_rfl) (by kernel_rfl) (fun _ _ _ h => h) (Or.inl ⟨by rfl, ?_⟩) (by assumption) ?_
                 rotate_left
                 (intro w hSw
                  (try dsimp only at hSw)
                  (go_simp <;> with_reducible rfl)))
            try simp only [Act.put, List.getElem_toArray, List.getElem_cons_zero, List.getElem_cons_succ, List.setIfInBounds_toArray, List.set_cons_zero, List.set_cons_succ]
            first
              | (refine wpAnyH_take (i := 3) (v := undef) rfl (by kernel_rfl) (by kernel_rfl) (by kernel_rfl) (fun _ _ _ h => h) (Or.inr ⟨by rfl, rfl⟩) (by assumption) ?_)
              | (refine wpAnyH_take (i := 3) (v := ?_) rfl (by kernel_rfl) (by kernel_rfl) (by kernel_rfl) (fun _ _ _ h => h) (Or.inl ⟨by rfl, ?_⟩) (by assumption) ?_
                 rotate_left
                 (intro w hSw
                  (try dsimp only at hSw)
                  (go_simp <;> with_reducible rfl)))
            try simp only [Act.put, List.getElem_toArray, List.getElem_cons_zero, List.getElem_cons_succ, List.setIfInBounds_toArray, List.set_cons_zero, List.set_cons_succ]
            first
              | (refine wpAnyH_take (i := 4) (v := undef) rfl (by kernel_rfl) (by kernel_rfl) (by kernel_rfl) (fun _ _ _ h => h) (Or.inr ⟨by rfl, rfl⟩) (by assumption) ?_)
              | (refine wpAnyH_take (i := 4) (v := ?_) rfl (by kernel_rfl) (by kernel_rfl) (by kernel_rfl) (fun _ _ _ h => h) (Or.inl ⟨by rfl, ?_⟩) (by assumption) ?_
                 rotate_left
                 (intro w hSw
                  (try dsimp only at hSw)
                  (go_simp <;> with_reducible rfl)))
            try simp only [Act.put, List.getElem_toArray, List.getElem_cons_zero, List.getElem_cons_succ, List.setIfInBounds_toArray, List.set_cons_zero, List.set_cons_succ]
            first
              | (refine wpAnyH_take (i := 5) (v := undef) rfl (by kernel_rfl) (by kernel_rfl) (by kernel_rfl) (fun _ _ _ h => h) (Or.inr ⟨by rfl, rfl⟩) (by assumption) ?_)
              | (refine wpAnyH_take (i := 5) (v := ?_) rfl (by kernel_rfl) (by kernel_rfl) (by kernel_rfl) (fun _ _ _ h => h) (Or.inl ⟨by rfl, ?_⟩) (by assumption) ?_
                 rotate_left
                 (intro w hSw
                  (try dsimp only at hSw)
                  (go_simp <;> with_reducible rfl)))
            try simp only [Act.put, List.getElem_toArray, List.getElem_cons_zero, List.getElem_cons_succ, List.setIfInBounds_toArray, List.set_cons_zero, List.set_cons_succ]
            first
              | (refine wpAnyH_take (i := 6) (v := undef) rfl (by kernel_rfl) (by kernel_rfl) (by kernel_rfl) (fun _ _ _ h => h) (Or.inr ⟨by rfl, rfl⟩) (by assumption) ?_)
              | (refine wpAnyH_take (i := 6) (v := ?_) rfl (by kernel_rfl) (by kernel_rfl) (by kernel_rfl) (fun _ _ _ h => h) (Or.inl ⟨by rfl, ?_⟩) (by assumption) ?_
                 rotate_left
                 (intro w hSw
                  (try dsimp only at hSw)
                  (go_simp <;> with_reducible rfl)))
            try simp only [Act.put, List.getElem_toArray, List.getElem_cons_zero, List.getElem_cons_succ, List.setIfInBounds_toArray, List.set_cons_zero, List.set_cons_succ]
            first
              | (refine wpAnyH_take (i := 7) (v := undef) rfl (by kernel_rfl) (by kernel_rfl) (by kernel_rfl) (fun _ _ _ h => h) (Or.inr ⟨by rfl, rfl⟩) (by assumption) ?_)
              | (refine wpAnyH_take (i := 7) (v := ?_) rfl (by kernel_rfl) (by kernel_rfl) (by kernel_rfl) (fun _ _ _ h => h) (Or.inl ⟨by rfl, ?_⟩) (by assumption) ?_
                 rotate_left
                 (intro w hSw
                  (try dsimp only at hSw)
                  (go_simp <;> with_reducible rfl)))
            try simp only [Act.put, List.getElem_toArray, List.getElem_cons_zero, List.getElem_cons_succ, List.setIfInBounds_toArray, List.set_cons_zero, List.set_cons_succ]
            refine wpAnyH_ready (rs := [8]) (by kernel_rfl) (by simp) ?_
            refine AllReadyH.cons (i := 8) (o := _) rfl (fun K hK => ?_) ?_
            rotate_left
            · exact AllReadyH.nil
            go_simp
            refine SM.out.mono ?_
            rintro e y1 ⟨rfl, g'⟩
            have g1 := D.out.trans g'
            have z1 := g1.cell (fun h => h) z1
            have z2 := g1.cell (fun h => h) z2
            have z3 := g1.cell (fun h => h) z3
            have z4 := g1.cell (fun h => h) z4
            have GY := hide (hC.out.trans g1)
            have GD := hide g'
            clear g' g1
            go_simp
            refine hK.out _ _ ⟨z1, z2, z3, z4⟩ (fun hHeld => ?_)
            clear hK K
            try simp only [Act.put, List.getElem_toArray, List.getElem_cons_zero, List.getElem_cons_succ, List.setIfInBounds_toArray, List.set_cons_zero, List.set_cons_succ]
            first
              | (refine wpAnyH_take (i := 9) (v := undef) rfl (by kernel_rfl) (by kernel_rfl) (by kernel_rfl) (fun _ _ _ h => h) (Or.inr ⟨by rfl, rfl⟩) (by assumption) ?_)
              | (refine wpAnyH_take (i := 9) (v := ?_) rfl (by kernel_rfl) (by kernel_rfl) (by kernel_rfl) (fun _ _ _ h => h) (Or.inl ⟨by rfl, ?_⟩) (by assumption) ?_
                 rotate_left
                 (intro w hSw
                  (try dsimp only at hSw)
                  (go_simp <;> with_reducible rfl)))
            try simp only [Act.put, List.getElem_toArray, List.getElem_cons_zero, List.getElem_cons_succ, List.setIfInBounds_toArray, List.set_cons_zero, List.set_cons_succ]
            first
              | (refine wpAnyH_take (i := 10) (v := undef) rfl (by kernel_rfl) (by kernel_rfl) (by kernel_rfl) (fun _ _ _ h => h) (Or.inr ⟨by rfl, rfl⟩) (by assumption) ?_)
              | (refine wpAnyH_take (i := 10) (v := ?_) rfl (by kernel_rfl) (by kernel_rfl) (by kernel_rfl) (fun _ _ _ h => h) (Or.inl ⟨by rfl, ?_⟩) (by assumption) ?_
                 rotate_left
                 (intro w hSw
                  (try dsimp only at hSw)
                  (go_simp <;> with_reducible rfl)))
            try simp only [Act.put, List.getElem_toArray, List.getElem_cons_zero, List.getElem_cons_succ, List.setIfInBounds_toArray, List.set_cons_zero, List.set_cons_succ]
            first
              | (refine wpAnyH_take (i := 11) (v := undef) rfl (by kernel_rfl) (by kernel_rfl) (by kernel_rfl) (fun _ _ _ h => h) (Or.inr ⟨by rfl, rfl⟩) (by assumption) ?_)
              | (refine wpAnyH_take (i := 11) (v := ?_) rfl (by kernel_rfl) (by kernel_rfl) (by kernel_rfl) (fun _ _ _ h => h) (Or.inl ⟨by rfl, ?_⟩) (by assumption) ?_
                 rotate_left
                 (intro w hSw
                  (try dsimp only at hSw)
                  (go_simp <;> with_reducible rfl)))
            try simp only [Act.put, List.getElem_toArray, List.getElem_cons_zero, List.getElem_cons_succ, List.setIfInBounds_toArray, List.set_cons_zero, List.set_cons_succ]
            first
              | (refine wpAnyH_take (i := 12) (v := undef) rfl (by kernel_rfl) (by kernel_rfl) (by kernel_rfl) (fun _ _ _ h => h) (Or.inr ⟨by rfl, rfl⟩) (by assumption) ?_)
              | (refine wpAnyH_take (i := 12) (v := ?_) rfl (by kernel_rfl) (by kernel_rfl) (by kernel_rfl) (fun _ _ _ h => h) (Or.inl ⟨by rfl, ?_⟩) (by assumption) ?_
                 rotate_left
                 (intro w hSw
                  (try dsimp only at hSw)
                  (go_simp <;> with_reducible rfl)))
            try simp only [Act.put, List.getElem_toArray, List.getElem_cons_zero, List.getElem_cons_succ, List.setIfInBounds_toArray, List.set_cons_zero, List.set_cons_succ]
            first
              | (refine wpAnyH_take (i := 13) (v := undef) rfl (by kernel_rfl) (by kernel_rfl) (by kernel_rfl) (fun _ _ _ h => h) (Or.inr ⟨by rfl, rfl⟩) (by assumption) ?_)
              | (refine wpAnyH_take (i := 13) (v := ?_) rfl (by kernel_rfl) (by kernel_rfl) (by kernel_rfl) (fun _ _ _ h => h) (Or.inl ⟨by rfl, ?_⟩) (by assumption) ?_
                 rotate_left
                 (intro w hSw
                  (try dsimp only at hSw)
                  (go_simp <;> with_reducible rfl)))
            try simp only [Act.put, List.getElem_toArray, List.getElem_cons_zero, List.getElem_cons_succ, List.setIfInBounds_toArray, List.set_cons_zero, List.set_cons_succ]
            first
              | (refine wpAnyH_take (i := 14) (v := undef) rfl (by kernel_rfl) (by kernel_rfl) (by kernel_rfl) (fun _ _ _ h => h) (Or.inr ⟨by rfl, rfl⟩) (by assumption) ?_)
              | (refine wpAnyH_take (i := 14) (v := ?_) rfl (by kernel_rfl) (by kernel_rfl) (by kernel_rfl) (fun _ _ _ h => h) (Or.inl ⟨by rfl, ?_⟩) (by assumption) ?_
                 rotate_left
                 (intro w hSw
                  (try dsimp only at hSw)
                  (go_simp <;> with_reducible rfl)))
            try simp only [Act.put, List.getElem_toArray, List.getElem_cons_zero, List.getElem_cons_succ, List.setIfInBounds_toArray, List.set_cons_zero, List.set_cons_succ]
            first
              | (refine wpAnyH_take (i := 15) (v := undef) rfl (by kernel_rfl) (by kernel_rfl) (by kernel_rfl) (fun _ _ _ h => h) (Or.inr ⟨by rfl, rfl⟩) (by assumption) ?_)
              | (refine wpAnyH_take (i := 15) (v := ?_) rfl (by kernel_rfl) (by kernel_rfl) (by kernel_rfl) (fun _ _ _ h => h) (Or.inl ⟨by rfl, ?_⟩) (by assumption) ?_
                 rotate_left
                 (intro w hSw
                  (try dsimp only at hSw)
                  (go_simp <;> with_reducible rfl)))
            try simp only [Act.put, List.getElem_toArray, List.getElem_cons_zero, List.getElem_cons_succ, List.setIfInBounds_toArray, List.set_cons_zero, List.set_cons_succ]
            first
              | (refine wpAnyH_take (i := 16) (v := undef) rfl (by kernel_rfl) (by kernel_rfl) (by kernel_rfl) (fun _ _ _ h => h) (Or.inr ⟨by rfl, rfl⟩) (by assumption) ?_)
              | (refine wpAnyH_take (i := 16) (v := ?_) rfl (by kernel_rfl) (by kernel_rfl) (by kernel_rfl) (fun _ _ _ h => h) (Or.inl ⟨by rfl, ?_⟩) (by assumption) ?_
                 rotate_left
                 (intro w hSw
                  (try dsimp only at hSw)
                  (go_simp <;> with_reducible rfl)))
            try simp only [Act.put, List.getElem_toArray, List.getElem_cons_zero, List.getElem_cons_succ, List.setIfInBounds_toArray, List.set_cons_zero, List.set_cons_succ]
            first
              | (refine wpAnyH_take (i := 17) (v := undef) rfl (by kernel_rfl) (by kernel_rfl) (by kernel_rfl) (fun _ _ _ h => h) (Or.inr ⟨by rfl, rfl⟩) (by assumption) ?_)
              | (refine wpAnyH_take (i := 17) (v := ?_) rfl (by kernel_rfl) (by kernel_rfl) (by kernel_rfl) (fun _ _ _ h => h) (Or.inl ⟨by rfl, ?_⟩) (by assumption) ?_
                 rotate_left
                 (intro w hSw
                  (try dsimp only at hSw)
                  (go_simp <;> with_reducible rfl)))
            try simp only [Act.put, List.getElem_toArray, List.getElem_cons_zero, List.getElem_cons_succ, List.setIfInBounds_toArray, List.set_cons_zero, List.set_cons_succ]
            first
              | (refine wpAnyH_take (i := 18) (v := undef) rfl (by kernel_rfl) (by kernel_rfl) (by kernel_rfl) (fun _ _ _ h => h) (Or.inr ⟨by rfl, rfl⟩) (by assumption) ?_)
              | (refine wpAnyH_take (i := 18) (v := ?_) rfl (by kernel_rfl) (by kernel_rfl) (by kernel_rfl) (fun _ _ _ h => h) (Or.inl ⟨by rfl, ?_⟩) (by assumption) ?_
                 rotate_left
                 (intro w hSw
                  (try dsimp only at hSw)
                  (go_simp <;> with_reducible rfl)))
            try simp only [Act.put, List.getElem_toArray, List.getElem_cons_zero, List.getElem_cons_succ, List.setIfInBounds_toArray, List.set_cons_zero, List.set_cons_succ]
            first
              | (refine wpAnyH_take (i := 19) (v := undef) rfl (by kernel_rfl) (by kernel_rfl) (by kernel_rfl) (fun _ _ _ h => h) (Or.inr ⟨by rfl, rfl⟩) (by assumption) ?_)
              | (refine wpAnyH_take (i := 19) (v := ?_) rfl (by kernel_rfl) (by kernel_rfl) (by kernel_rfl) (fun _ _ _ h => h) (Or.inl ⟨by rfl, ?_⟩) (by assumption) ?_
                 rotate_left
                 (intro w hSw
                  (try dsimp only at hSw)
                  (go_simp <;> with_reducible rfl)))
            try simp only [Act.put, List.getElem_toArray, List.getElem_cons_zero, List.getElem_cons_succ, List.setIfInBounds_toArray, List.set_cons_zero, List.set_cons_succ]
            first
              | (refine wpAnyH_take (i := 20) (v := undef) rfl (by kernel_rfl) (by kernel_rfl) (by kernel_rfl) (fun _ _ _ h => h) (Or.inr ⟨by rfl, rfl⟩) (by assumption) ?_)
              | (refine wpAnyH_take (i := 20) (v := ?_) rfl (by kernel_rfl) (by kernel_rfl) (by kernel_rfl) (fun _ _ _ h => h) (Or.inl ⟨by rfl, ?_⟩) (by assumption) ?_
                 rotate_left
                 (intro w hSw
                  (try dsimp only at hSw)
                  (go_simp <;> with_reducible rfl)))
            try simp only [Act.put, List.getElem_toArray, List.getElem_cons_zero, List.getElem_cons_succ, List.setIfInBounds_toArray, List.set_cons_zero, List.set_cons_succ]
            first
              | (refine wpAnyH_take (i := 21) (v := undef) rfl (by kernel_rfl) (by kernel_rfl) (by kernel_rfl) (fun _ _ _ h => h) (Or.inr ⟨by rfl, rfl⟩) (by assumption) ?_)
              | (refine wpAnyH_take (i := 21) (v := ?_) rfl (by kernel_rfl) (by kernel_rfl) (by kernel_rfl) (fun _ _ _ h => h) (Or.inl ⟨by rfl, ?_⟩) (by assumption) ?_
                 rotate_left
                 (intro w hSw
                  (try dsimp only at hSw)
                  (go_simp <;> with_reducible rfl)))
            try simp only [Act.put, List.getElem_toArray, List.getElem_cons_zero, List.getElem_cons_succ, List.setIfInBounds_toArray, List.set_cons_zero, List.set_cons_succ]
            first
              | (refine wpAnyH_take (i := 22) (v := undef) rfl (by kernel_rfl) (by kernel_rfl) (by kernel_rfl) (fun _ _ _ h => h) (Or.inr ⟨by rfl, rfl⟩) (by assumption) ?_)
              | (refine wpAnyH_take (i := 22) (v := ?_) rfl (by kernel_rfl) (by kernel_rfl) (by kernel_rfl) (fun _ _ _ h => h) (Or.inl ⟨by rfl, ?_⟩) (by assumption) ?_
                 rotate_left
                 (intro w hSw
                  (try dsimp only at hSw)
                  (go_simp <;> with_reducible rfl)))
            try simp only [Act.put, List.getElem_toArray, List.getElem_cons_zero, List.getElem_cons_succ, List.setIfInBounds_toArray, List.set_cons_zero, List.set_cons_succ]
            refine wpAnyH_ready (rs := [23]) (by kernel_rfl) (by simp) ?_
            refine AllReadyH.cons (i := 23) (o := _) rfl (fun K hK => ?_) ?_
            rotate_left
            · exact AllReadyH.nil
            go_simp
            refine (spcmp_any PL[j] PL[j + 1] (by have := hjl0.out; omega) (by have := hjl.out; omega) u0 u1 _ y1 ((I0.out.chg GD.out (fun _ _ h => h)).up (Y := fun y => y < y1.heap.size) (fun y hy => Nat.lt_of_lt_of_le hy GD.out.size)) ((I1.out.chg GD.out (fun _ _ h => h)).up (fun y hy => Nat.lt_of_lt_of_le hy GD.out.size))).mono ?_
            rintro e y2 ⟨rfl, rfl⟩
            rw [NX.out]
            go_simp
            refine hK.out _ _ ⟨z1, z2, z3, z4⟩ (fun hHeld => ?_)
            clear hK K
            try simp only [Act.put, List.getElem_toArray, List.getElem_cons_zero, List.getElem_cons_succ, List.setIfInBounds_toArray, List.set_cons_zero, List.set_cons_succ]
            first
              | (refine wpAnyH_take (i := 24) (v := undef) rfl (by kernel_rfl) (by kernel_rfl) (by kernel_rfl) (fun _ _ _ h => h) (Or.inr ⟨by rfl, rfl⟩) (by assumption) ?_)
              | (refine wpAnyH_take (i := 24) (v := ?_) rfl (by kernel_rfl) (by kernel_rfl) (by kernel_rfl) (fun _ _ _ h => h) (Or.inl ⟨by rfl, ?_⟩) (by assumption) ?_
                 rotate_left
                 (intro w hSw
                  (try dsimp only at hSw)
                  (go_simp <;> with_reducible rfl)))
            try simp only [Act.put, List.getElem_toArray, List.getElem_cons_zero, List.getElem_cons_succ, List.setIfInBounds_toArray, List.set_cons_zero, List.set_cons_succ]
            first
              | (refine wpAnyH_take (i := 25) (v := undef) rfl (by kernel_rfl) (by kernel_rfl) (by kernel_rfl) (fun _ _ _ h => h) (Or.inr ⟨by rfl, rfl⟩) (by assumption) ?_)
              | (refine wpAnyH_take (i := 25) (v := ?_) rfl (by kernel_rfl) (by kernel_rfl) (by kernel_rfl) (fun _ _ _ h => h) (Or.inl ⟨by rfl, ?_⟩) (by assumption) ?_
                 rotate_left
                 (intro w hSw
                  (try dsimp only at hSw)
                  (go_simp <;> with_reducible rfl)))
            try simp only [Act.put, List.getElem_toArray, List.getElem_cons_zero, List.getElem_cons_succ, List.setIfInBounds_toArray, List.set_cons_zero, List.set_cons_succ]
            first
              | (refine wpAnyH_take (i := 26) (v := undef) rfl (by kernel_rfl) (by kernel_rfl) (by kernel_rfl) (fun _ _ _ h => h) (Or.inr ⟨by rfl, rfl⟩) (by assumption) ?_)
              | (refine wpAnyH_take (i := 26) (v := ?_) rfl (by kernel_rfl) (by kernel_rfl) (by kernel_rfl) (fun _ _ _ h => h) (Or.inl ⟨by rfl, ?_⟩) (by assumption) ?_
                 rotate_left
                 (intro w hSw
                  (try dsimp only at hSw)
                  (go_simp <;> with_reducible rfl)))
            try simp only [Act.put, List.getElem_toArray, List.getElem_cons_zero, List.getElem_cons_succ, List.setIfInBounds_toArray, List.set_cons_zero, List.set_cons_succ]
            refine wpAnyH_done (by kernel_rfl) ?_ _
            go_wp2_with fail
            go_roundw
            case rel => exact ⟨j + 1 + 1, by omega, by go_num, GY⟩
            case measure => simp [intOf]; omega
        · have j2 : ¬ (j : Int) < (PL.length : Int) := by omega
          go_wp2_with fail
          go_meet
          exact hC
    case rest =>
    have GX := hcut
    generalize wc = w7 at *
    replace G := hide (G.out.trans GX.out)
    replace BP := hide (GX.out.blk (fun h => h) BP.out)
    replace BS := hide (GX.out.blk (fun h => h) BS.out)
    replace BA := hide (GX.out.blk (fun h => h) BA.out)
    replace BM := hide (GX.out.blk (fun h => h) BM.out)
    have TA7 := hide (TA6.out.chg GX.out (fun _ _ h => h))
    have RM7 := hide (RM.out.chg GX.out (fun _ _ h => h))
    have HM7 : Hid (P < SS ∧ SS < A ∧ A < M ∧ M < w6.heap.size ∧ w.heap.size = P ∧ w6.heap.size ≤ w7.heap.size) := hide ⟨HM.out.1, HM.out.2.1, HM.out.2.2.1, HM.out.2.2.2.1, HM.out.2.2.2.2, GX.out.size⟩
    clear GX HCL HCM HM TA6 RL RM xM
    have s0 : w7.cell? ⟨SS, 0, none⟩ = some (.int .i64 stop) := blk_cell BS.out 0
    have sf0 := blk_free BS.out 0
    obtain ⟨K, hK1, hK2, hK⟩ := stop_k stop
    go_upto_region 13 with fail
    rw [hK]
    have BS8 := hide (blk_set BS.out 0 (.int .i64 (K : Int)))
    have GS := hide (Chg.set w7 SS 0 (.int .i64 (K : Int)))
    replace G : Hid (Chg (fun _ => False) w _) := hide (((G.out.none (S := fun x => x = SS)).trans GS.out).mono (fun x hx e => by have := HM7.out; omega))
    replace BP := hide (GS.out.blk (by have := HM7.out; omega) BP.out)
    replace BA := hide (GS.out.blk (by have := HM7.out; omega) BA.out)
    replace BM := hide (GS.out.blk (by have := HM7.out; omega) BM.out)
    have TA8 := hide (TA7.out.chg GS.out (fun x hx e => by have := HM7.out; omega))
    have RM8 := hide (RM7.out.chg GS.out (fun x hx e => by have := HM7.out; exact RMS.out x hx e))
    have HM8 : Hid (P < SS ∧ SS < A ∧ A < M ∧ M < (w7.setCell ⟨SS, 0, none⟩ (.int .i64 (K : Int))).heap.size ∧ w.heap.size = P ∧ w6.heap.size ≤ (w7.setCell ⟨SS, 0, none⟩ (.int .i64 (K : Int))).heap.size) := hide (by have := HM7.out; have := GS.out.size; omega)
    clear s0 sf0 BS GS TA7 RM7 HM7 hK
    generalize w7.setCell ⟨SS, 0, none⟩ (.int .i64 (K : Int)) = w8 at *
    have x0 : w8.cell? ⟨A, 0, none⟩ = some (.slice aa b.len ac) := blk_cell BA.out 0
    have x1 : w8.cell? ⟨A, 1, none⟩ = some (.int .i64 k) := blk_cell BA.out 1
    have x2 : w8.cell? ⟨A, 2, none⟩ = some (.int .i64 i) := blk_cell BA.out 2
    have x3 : w8.cell? ⟨A, 3, none⟩ = some (.slice ad f.len ae) := blk_cell BA.out 3
    have A1 := al w8 (.cells #[.int .i64 0] 3)
    have n1 := blk_new w8 (.cells #[.int .i64 0] 3)
    have A2 := al (w8.alloc (.cells #[.int .i64 0] 3)) (.cells #[.bool true] 4)
    have n2 := blk_new (w8.alloc (.cells #[.int .i64 0] 3)) (.cells #[.bool true] 4)
    have A3 := al ((w8.alloc (.cells #[.int .i64 0] 3)).alloc (.cells #[.bool true] 4)) (.cells #[.slice aa b.len ac, .int .i64 k, .int .i64 i, .slice ad f.len ae] 35)
    have n3 := blk_new ((w8.alloc (.cells #[.int .i64 0] 3)).alloc (.cells #[.bool true] 4)) (.cells #[.slice aa b.len ac, .int .i64 k, .int .i64 i, .slice ad f.len ae] 35)
    have GA := hide ((A1.trans A2).trans A3)
    have n1' := A3.blk (fun h => h) (A2.blk (fun h => h) n1)
    have n2' := A3.blk (fun h => h) n2
    rw [al_sz] at n2'
    rw [al_sz, al_sz] at n3
    have BN := hide n1'
    have BK := hide n2'
    have BT := hide n3
    have sz : (((w8.alloc (.cells #[.int .i64 0] 3)).alloc (.cells #[.bool true] 4)).alloc (.cells #[.slice aa b.len ac, .int .i64 k, .int .i64 i, .slice ad f.len ae] 35)).heap.size = w8.heap.size + 3 := by rw [al_sz, al_sz, al_sz]
    have SZ := hide sz
    have x0 := (A1.trans A2).cell (fun h => h) x0
    have x1 := (A1.trans A2).cell (fun h => h) x1
    have x2 := (A1.trans A2).cell (fun h => h) x2
    have x3 := (A1.trans A2).cell (fun h => h) x3
    clear A1 A2 A3 n1 n2 n3 n1' n2' sz
    go_wp2_with fail
    refine (callsIn_wide.1 (each_in 1 _ _ _ _ _)).mono ?_
    rintro e w' ⟨rfl, rfl⟩
    go_upto_block 2 with fail
    clear x0 x1 x2 x3
    generalize hW0 : (((w8.alloc (.cells #[.int .i64 0] 3)).alloc (.cells #[.bool true] 4)).alloc (.cells #[.slice aa b.len ac, .int .i64 k, .int .i64 i, .slice ad f.len ae] 35)) = W0 at *
    obtain ⟨N9, hN9⟩ : ∃ N9, w8.heap.size = N9 := ⟨_, rfl⟩
    obtain ⟨K10, hK10⟩ : ∃ K10, N9 + 1 = K10 := ⟨_, rfl⟩
    obtain ⟨Bt, hBt⟩ : ∃ Bt, K10 + 1 = Bt := ⟨_, rfl⟩
    have hZ := SZ.out
    rw [hN9] at BN BK BT hZ
    rw [hK10] at BK BT
    rw [hBt] at BT
    try simp only [al_sz]
    rw [hN9, hK10, hBt]
    have HN : Hid (P < SS ∧ SS < A ∧ A < M ∧ M < N9 ∧ w.heap.size = P ∧ N9 < K10 ∧ K10 < Bt ∧ Bt < W0.heap.size ∧ w6.heap.size ≤ N9) := hide (by have := HM8.out; omega)
    clear hN9 hK10 hBt hZ SZ hW0 HM8
    replace G := hide (G.out.trans GA.out)
    replace BP := hide (GA.out.blk (fun h => h) BP.out)
    replace BS8 := hide (GA.out.blk (fun h => h) BS8.out)
    replace BM := hide (GA.out.blk (fun h => h) BM.out)
    have TA0 := hide (TA8.out.chg GA.out (fun _ _ h => h))
    have RM0 := hide (RM8.out.chg GA.out (fun _ _ h => h))
    clear GA TA8 RM8 BA
    refine (wpIn_wide (n := 6)).1 ?_
    gi_wp2
    refine wpIn_range_toldC rfl (by omega) (gf := 49) (lb := #[.pointer (some ⟨Bt, 0, none⟩)]) rfl trivial (enters_of Tryd.func49 (by kernel_rfl) rfl)
      (each_tellsC 5 Bt (fun k t => k ≠ N9 ∧ k ≠ K10) (fun x => SS < x ∧ x < A) W0 (fun x c hx => by have := HN.out; exact ⟨by omega, by omega⟩) (fun x hx => by have := HN.out; omega)
        (fun x hx => by have := HN.out; exact ⟨⟨by omega, by omega⟩, ⟨by omega, by omega⟩⟩) (b, k, i, f) OK.out aa ac ad ae BT.out TA0.out)
      (fun h k => h.trans k) (fun W l o o' _ ho hc => KpG.put _ W l o o' ho hc) (fun _ => rfl)
      (SI W0 N9 K10 K) (SX W0 N9 K10 K) (si_own (by have := HN.out; omega) (by have := HN.out; omega)) (fun c => sx_own (by have := HN.out; omega) (by have := HN.out; omega) c)
      ⟨BN.out, BK.out, Chg.refl _ _, hK1⟩ ?round ?done ?stop
    case round =>
      rintro l pre x V W hl hlW hI hVW hQ hlen hsp
      obtain ⟨pv, tv, p, tm⟩ := x
      obtain ⟨q1, q2⟩ := hQ
      dsimp only at q1 q2
      obtain ⟨m0, m1, m2, m3⟩ := tm
      obtain ⟨pa, pc, rfl, _⟩ := id q1
      obtain ⟨ya, yc, yd, ye, rfl, _, _⟩ := id q2
      dsimp only [encT, Tm.bs, Tm.kd, Tm.ix, Tm.ag]
      have HI := hide hI
      have HLW := hide (And.intro hl hlW)
      have Q1 := hide q1
      have Q2 := hide q2
      have HVW := hide hVW
      have HSP := hide hsp
      clear hI hl hlW q1 q2 hVW hsp hlen
      gi_wp2
      have GY := al W (.cells #[.slice ya m0.len yc, .int .i64 m1, .int .i64 m2, .slice yd m3.len ye] 35)
      refine ⟨keeps_of (S := fun _ => False) GY (fun _ h => h.elim), KpG.of_same GY, fun o o' ho hoc => ?_⟩
      have BY0 := blk_new W (.cells #[.slice ya m0.len yc, .int .i64 m1, .int .i64 m2, .slice yd m3.len ye] 35)
      have CP := chg_put (W.alloc (.cells #[.slice ya m0.len yc, .int .i64 m1, .int .i64 m2, .slice yd m3.len ye] 35)) l o'
      have KG : KpG AllG W ((W.alloc (.cells #[.slice ya m0.len yc, .int .i64 m1, .int .i64 m2, .slice yd m3.len ye] 35)).putObj l o') := (KpG.of_same GY).trans (KpG.put _ _ _ _ _ ho hoc)
      have BY := hide (CP.blk (by have := HLW.out; omega) BY0)
      have G2 : Hid (Chg (fun x => x = N9 ∨ x = K10) W0 ((W.alloc (.cells #[.slice ya m0.len yc, .int .i64 m1, .int .i64 m2, .slice yd m3.len ye] 35)).putObj l o')) := hide ((((HI.out.2.2.1.mono (T := fun x => (x = N9 ∨ x = K10) ∨ x = l) (fun x _ h => Or.inl h)).trans ((HVW.out.trans GY).none)).trans (CP.mono (fun x _ h => Or.inr h))).mono (fun x hx h => by have := HLW.out; rcases h with h | h; exact h; omega))
      have BN2 := hide (CP.blk (by have := HLW.out; have := HN.out; omega) (GY.blk (fun h => h) (HVW.out.blk (fun h => h) HI.out.1)))
      have BK2 := hide (CP.blk (by have := HLW.out; have := HN.out; omega) (GY.blk (fun h => h) (HVW.out.blk (fun h => h) HI.out.2.1)))
      have HPK : Hid (pre.length < K) := hide HI.out.2.2.2
      have hV0 := HI.out.2.2.1.size
      have QP := hide ((Q1.out.kpa KG).up (Y := fun y => W0.heap.size ≤ y ∧ y < ((W.alloc (.cells #[.slice ya m0.len yc, .int .i64 m1, .int .i64 m2, .slice yd m3.len ye] 35)).putObj l o').heap.size) (fun y hy => ⟨Nat.le_trans hV0 hy.1, Nat.lt_of_lt_of_le hy.2 KG.1⟩))
      have QT := hide ((Q2.out.kpa KG).up (Y := fun y => W0.heap.size ≤ y ∧ y < ((W.alloc (.cells #[.slice ya m0.len yc, .int .i64 m1, .int .i64 m2, .slice yd m3.len ye] 35)).putObj l o').heap.size) (fun y hy => ⟨Nat.le_trans hV0 hy.1, Nat.lt_of_lt_of_le hy.2 KG.1⟩))
      obtain ⟨hn, hpe, al1, hat⟩ := round_facts HSP.out HPL.out
      dsimp only at hpe hat
      have HAT := hide hat
      have HYW : Hid (W0.heap.size < W.heap.size) := hide (by have := HLW.out; omega)
      have YL : Hid (W.heap.size < ((W.alloc (.cells #[.slice ya m0.len yc, .int .i64 m1, .int .i64 m2, .slice yd m3.len ye] 35)).putObj l o').heap.size) := hide (blk_lt BY.out)
      clear GY BY0 CP KG HSP HVW Q1 Q2 HI hat ho hoc hV0
      obtain ⟨Y, hY⟩ : ∃ Y, W.heap.size = Y := ⟨_, rfl⟩
      rw [hY] at BY YL HYW ⊢
      clear hY
      generalize (W.alloc (.cells #[.slice ya m0.len yc, .int .i64 m1, .int .i64 m2, .slice yd m3.len ye] 35)).putObj l o' = W2 at *
      obtain ⟨a1, c1, e1, h1⟩ := RM0.out
      injection e1 with e1 _ e3
      subst e1 e3
      rcases h1 with h1 | ⟨g1, off1, e1, hX1, hc1⟩
      · rw [h1] at hn; exact absurd hn (Nat.not_lt_zero _)
      injection e1 with e1
      injection e1 with e1 e2
      subst e1 e2
      obtain ⟨u2, cu2, ic2⟩ := hc1 pre.length hn
      rw [hpe] at ic2
      have nNK : ∀ x, x < w6.heap.size → ¬ (x = N9 ∨ x = K10) := fun x hx e => by have := HN.out; omega
      have IC2 := hide ((ic2.chg G2.out (fun x hx => nNK x hx.1)).up (Y := fun x => x < w6.heap.size) (fun x hx => hx.1))
      have z2 := G2.out.cell (nNK gm hX1.1) cu2
      have HGM2 : Hid (gm < w6.heap.size) := hide hX1.1
      have BM2 := hide (G2.out.blk (by have := HN.out; omega) BM.out)
      have BP2 := hide (G2.out.blk (by have := HN.out; omega) BP.out)
      have BS2 := hide (G2.out.blk (by have := HN.out; omega) BS8.out)
      have cM : W2.cell? ⟨M, 0, none⟩ = some (.slice (some ⟨gm, om, none⟩) PL.length mc) := blk_cell BM2.out 0
      have cK : W2.cell? ⟨K10, 0, none⟩ = some (.bool true) := blk_cell BK2.out 0
      have cN : W2.cell? ⟨N9, 0, none⟩ = some (.int .i64 (pre.length : Int)) := blk_cell BN2.out 0
      have HPLN := hide (len_pl HPL.out SMALL.out hpe hn)
      have HW2 : Hid (W0.heap.size ≤ W2.heap.size) := hide G2.out.size
      have TP2 : Hid (TV W2 (fun x => x < P) (.agg #[.slice ba b.len bc, .int .i64 k, .int .i64 i, .slice a f.len cap]) (b, k, i, f)) := hide (((T0.out.chg G.out (fun _ _ h => h)).up (Y := fun x => x < P) (fun x hx => by have := HN.out; omega)).chg G2.out (fun x hx e => by have := HN.out; omega))
      clear hc1 hX1 cu2 ic2 nNK
      obtain ⟨n, hnn⟩ : ∃ n, pre.length = n := ⟨_, rfl⟩
      rw [hnn] at hn z2 cN BN2 HPK
      have HNN := hide hnn
      clear hnn hpe
      have i1 : (0 : Int) ≤ (n : Int) := by omega
      have i2 : (n : Int) < (PL.length : Int) := by omega
      have hlen := HLEN.out.2
      have SM := hide (rsame_any p p (by have := HPLN.out; omega) (by have := HPLN.out; omega) (.slice pa p.length pc) u2 (fun y => y < W2.heap.size) W2 (QP.out.up (fun y hy => hy.2)) (IC2.out.1.up (fun x hx => by have := HN.out; have := HW2.out; omega)))
      rw [cmpL_self] at SM
      rw [show ((0 : Int) == 0) = true from rfl] at SM
      gi_wp2
      refine ⟨trivial, ?_⟩
      refine (calls_in_round SM.out).mono ?_
      rintro e W3 ⟨rfl, g3⟩
      have BK3 := g3.blk (fun h => h) BK2.out
      have cK3 : W3.cell? ⟨K10, 0, none⟩ = some (.bool true) := blk_cell BK3 0
      have fK3 := blk_free BK3 0
      have BK4 := hide (blk_set BK3 0 (.bool true))
      have G4 : Hid (Chg (fun x => x = K10) W2 (W3.setCell ⟨K10, 0, none⟩ (.bool true))) := hide (g3.none.trans (Chg.set W3 K10 0 (.bool true)))
      have cK4 : (W3.setCell ⟨K10, 0, none⟩ (.bool true)).cell? ⟨K10, 0, none⟩ = some (.bool true) := blk_cell BK4.out 0
      have BN4 := hide (G4.out.blk (by have := HN.out; omega) BN2.out)
      have BY4 := hide (G4.out.blk (by have := HN.out; have := HYW.out; omega) BY.out)
      have BM4 := hide (G4.out.blk (by have := HN.out; omega) BM2.out)
      have BP4 := hide (G4.out.blk (by have := HN.out; omega) BP2.out)
      have BS4 := hide (G4.out.blk (by have := HN.out; omega) BS2.out)
      have cM4 : (W3.setCell ⟨K10, 0, none⟩ (.bool true)).cell? ⟨M, 0, none⟩ = some (.slice (some ⟨gm, om, none⟩) PL.length mc) := blk_cell BM4.out 0
      have cN4 : (W3.setCell ⟨K10, 0, none⟩ (.bool true)).cell? ⟨N9, 0, none⟩ = some (.int .i64 (n : Int)) := blk_cell BN4.out 0
      have z4 := G4.out.cell (by have := HN.out; have := HGM2.out; omega) z2
      have TP4 := hide (TP2.out.chg G4.out (fun x hx e => by have := HN.out; omega))
      have QT4 := hide ((QT.out.chg G4.out (fun x hx e => by have := HN.out; omega)).up (Y := fun y => y < (W3.setCell ⟨K10, 0, none⟩ (.bool true)).heap.size) (fun y hy => Nat.lt_of_lt_of_le hy.2 G4.out.size))
      have IC4 := hide (IC2.out.chg G4.out (fun x hx e => by have := HN.out; omega))
      have HW4 : Hid (W2.heap.size ≤ (W3.setCell ⟨K10, 0, none⟩ (.bool true)).heap.size) := hide G4.out.size
      clear g3 SM cK cN cM z2 BK3 QP QT IC2 TP2 BM2 BP2 BS2 BK2 BN2 BY
      gi_wp2
      clear cK3 fK3 cK4
      generalize (W3.setCell ⟨K10, 0, none⟩ (.bool true)) = W4 at *
      have p0 : W4.cell? ⟨P, 0, none⟩ = some (.slice ba b.len bc) := blk_cell BP4.out 0
      have p1 : W4.cell? ⟨P, 1, none⟩ = some (.int .i64 k) := blk_cell BP4.out 1
      have p2 : W4.cell? ⟨P, 2, none⟩ = some (.int .i64 i) := blk_cell BP4.out 2
      have p3 : W4.cell? ⟨P, 3, none⟩ = some (.slice a f.len cap) := blk_cell BP4.out 3
      have OKM := hide (atR_ok p (b, k, i, f) _ OK.out HAT.out)
      have RC := hide (fun (w' : World) (g : Chg (fun _ => False) W4 w') => rat_any p (b, k, i, f) (.agg #[.slice ba b.len bc, .int .i64 k, .int .i64 i, .slice a f.len cap]) u2 (fun x => x < P) w' OK.out (fun x hx => by have := HN.out; have := HW2.out; have := HW4.out; have := g.size; omega) (TP4.out.chg g (fun _ _ h => h)) ((IC4.out.ip (fun x hx => by have := HN.out; have := HW2.out; have := HW4.out; omega)).all g))
      rw [HAT.out] at RC
      simp only [Option.getD_some, Option.isSome_some] at RC
      refine region_in_round (fun w' => w'.cell? ⟨P, 0, none⟩ = some (.slice ba b.len bc) ∧ w'.cell? ⟨P, 1, none⟩ = some (.int .i64 k) ∧ w'.cell? ⟨P, 2, none⟩ = some (.int .i64 i) ∧ w'.cell? ⟨P, 3, none⟩ = some (.slice a f.len cap) ∧ w'.cell? ⟨M, 0, none⟩ = some (.slice (some ⟨gm, om, none⟩) PL.length mc) ∧ w'.cell? ⟨N9, 0, none⟩ = some (.int .i64 (n : Int)) ∧ w'.cell? ⟨gm, om + n, none⟩ = some u2) (by kernel_rfl) (by kernel_rfl) (by rintro ⟨a9, w9, h9⟩; exact h9) (by go_keep) (fun hHeld => ?_)
      first
        | (refine wpAnyH_take (i := 0) (v := undef) rfl (by kernel_rfl) (by kernel_rfl) (by kernel_rfl) (fun _ _ _ h => h) (Or.inr ⟨by rfl, rfl⟩) (by assumption) ?_)
        | (refine wpAnyH_take (i := 0) (v := ?_) rfl (by kernel_rfl) (by kernel_rfl) (by kernel_rfl) (fun _ _ _ h => h) (Or.inl ⟨by rfl, ?_⟩) (by assumption) ?_
           rotate_left
           (intro w hSw
            (try dsimp only at hSw)
            (go_simp <;> with_reducible rfl)))
      try simp only [Act.put, List.getElem_toArray, List.getElem_cons_zero, List.getElem_cons_succ, List.setIfInBounds_toArray, List.set_cons_zero, List.set_cons_succ]
      first
        | (refine wpAnyH_take (i := 1) (v := undef) rfl (by kernel_rfl) (by kernel_rfl) (by kernel_rfl) (fun _ _ _ h => h) (Or.inr ⟨by rfl, rfl⟩) (by assumption) ?_)
        | (refine wpAnyH_take (i := 1) (v := ?_) rfl (by kernel_rfl) (by kernel_rfl) (by kernel_rfl) (fun _ _ _ h => h) (Or.inl ⟨by rfl, ?_⟩) (by assumption) ?_
           rotate_left
           (intro w hSw
            (try dsimp only at hSw)
            (go_simp <;> with_reducible rfl)))
      try simp only [Act.put, List.getElem_toArray, List.getElem_cons_zero, List.getElem_cons_succ, List.setIfInBounds_toArray, List.set_cons_zero, List.set_cons_succ]
      first
        | (refine wpAnyH_take (i := 2) (v := undef) rfl (by kernel_rfl) (by kernel_rfl) (by kernel_rfl) (fun _ _ _ h => h) (Or.inr ⟨by rfl, rfl⟩) (by assumption) ?_)
        | (refine wpAnyH_take (i := 2) (v := ?_) rfl (by kernel_rfl) (by kernel_rfl) (by kernel_rfl) (fun _ _ _ h => h) (Or.inl ⟨by rfl, ?_⟩) (by assumption) ?_
           rotate_left
           (intro w hSw
            (try dsimp only at hSw)
            (go_simp <;> with_reducible rfl)))
      try simp only [Act.put, List.getElem_toArray, List.getElem_cons_zero, List.getElem_cons_succ, List.setIfInBounds_toArray, List.set_cons_zero, List.set_cons_succ]
      first
        | (refine wpAnyH_take (i := 3) (v := undef) rfl (by kernel_rfl) (by kernel_rfl) (by kernel_rfl) (fun _ _ _ h => h) (Or.inr ⟨by rfl, rfl⟩) (by assumption) ?_)
        | (refine wpAnyH_take (i := 3) (v := ?_) rfl (by kernel_rfl) (by kernel_rfl) (by kernel_rfl) (fun _ _ _ h => h) (Or.inl ⟨by rfl, ?_⟩) (by assumption) ?_
           rotate_left
           (intro w hSw
            (try dsimp only at hSw)
            (go_simp <;> with_reducible rfl)))
      try simp only [Act.put, List.getElem_toArray, List.getElem_cons_zero, List.getElem_cons_succ, List.setIfInBounds_toArray, List.set_cons_zero, List.set_cons_succ]
      first
        | (refine wpAnyH_take (i := 4) (v := undef) rfl (by kernel_rfl) (by kernel_rfl) (by kernel_rfl) (fun _ _ _ h => h) (Or.inr ⟨by rfl, rfl⟩) (by assumption) ?_)
        | (refine wpAnyH_take (i := 4) (v := ?_) rfl (by kernel_rfl) (by kernel_rfl) (by kernel_rfl) (fun _ _ _ h => h) (Or.inl ⟨by rfl, ?_⟩) (by assumption) ?_
           rotate_left
           (intro w hSw
            (try dsimp only at hSw)
            (go_simp <;> with_reducible rfl)))
      try simp only [Act.put, List.getElem_toArray, List.getElem_cons_zero, List.getElem_cons_succ, List.setIfInBounds_toArray, List.set_cons_zero, List.set_cons_succ]
      refine wpAnyH_ready (rs := [5, 10]) (by kernel_rfl) (by simp) ?_
      refine AllReadyH.cons (i := 5) (o := _) rfl (fun K hK => ?_) ?_
      · go_simp
        refine (RC.out _ (Chg.refl (fun _ => False) W4).drew).mono ?_
        rintro e v1 ⟨⟨v', vz, rfl, tz, tl⟩, g⟩
        obtain ⟨za, zc, zd, ze, rfl, _, _⟩ := id tz
        dsimp only [Tm.bs, Tm.kd, Tm.ix, Tm.ag]
        have g' := (Chg.refl (fun _ => False) W4).drew.trans g
        have p0 := g'.cell (fun h => h) p0
        have p1 := g'.cell (fun h => h) p1
        have p2 := g'.cell (fun h => h) p2
        have p3 := g'.cell (fun h => h) p3
        have cM4 := g'.cell (fun h => h) cM4
        have cN4 := g'.cell (fun h => h) cN4
        have z4 := g'.cell (fun h => h) z4
        have TZ0 := hide tz
        have GA0 := hide g'
        clear tz tl g g'
        go_simp
        refine hK.out _ _ ⟨p0, p1, p2, p3, cM4, cN4, z4⟩ (fun hHeld => ?_)
        clear hK K
        try simp only [Act.put, List.getElem_toArray, List.getElem_cons_zero, List.getElem_cons_succ, List.setIfInBounds_toArray, List.set_cons_zero, List.set_cons_succ]
        first
          | (refine wpAnyH_take (i := 6) (v := undef) rfl (by kernel_rfl) (by kernel_rfl) (by kernel_rfl) (fun _ _ _ h => h) (Or.inr ⟨by rfl, rfl⟩) (by assumption) ?_)
          | (refine wpAnyH_take (i := 6) (v := ?_) rfl (by kernel_rfl) (by kernel_rfl) (by kernel_rfl) (fun _ _ _ h => h) (Or.inl ⟨by rfl, ?_⟩) (by assumption) ?_
             rotate_left
             (intro w hSw
              (try dsimp only at hSw)
              (go_simp <;> with_reducible rfl)))
        try simp only [Act.put, List.getElem_toArray, List.getElem_cons_zero, List.getElem_cons_succ, List.setIfInBounds_toArray, List.set_cons_zero, List.set_cons_succ]
        first
          | (refine wpAnyH_take (i := 7) (v := undef) rfl (by kernel_rfl) (by kernel_rfl) (by kernel_rfl) (fun _ _ _ h => h) (Or.inr ⟨by rfl, rfl⟩) (by assumption) ?_)
          | (refine wpAnyH_take (i := 7) (v := ?_) rfl (by kernel_rfl) (by kernel_rfl) (by kernel_rfl) (fun _ _ _ h => h) (Or.inl ⟨by rfl, ?_⟩) (by assumption) ?_
             rotate_left
             (intro w hSw
              (try dsimp only at hSw)
              (go_simp <;> with_reducible rfl)))
        try simp only [Act.put, List.getElem_toArray, List.getElem_cons_zero, List.getElem_cons_succ, List.setIfInBounds_toArray, List.set_cons_zero, List.set_cons_succ]
        first
          | (refine wpAnyH_take (i := 8) (v := undef) rfl (by kernel_rfl) (by kernel_rfl) (by kernel_rfl) (fun _ _ _ h => h) (Or.inr ⟨by rfl, rfl⟩) (by assumption) ?_)
          | (refine wpAnyH_take (i := 8) (v := ?_) rfl (by kernel_rfl) (by kernel_rfl) (by kernel_rfl) (fun _ _ _ h => h) (Or.inl ⟨by rfl, ?_⟩) (by assumption) ?_
             rotate_left
             (intro w hSw
              (try dsimp only at hSw)
              (go_simp <;> with_reducible rfl)))
        try simp only [Act.put, List.getElem_toArray, List.getElem_cons_zero, List.getElem_cons_succ, List.setIfInBounds_toArray, List.set_cons_zero, List.set_cons_succ]
        first
          | (refine wpAnyH_take (i := 9) (v := undef) rfl (by kernel_rfl) (by kernel_rfl) (by kernel_rfl) (fun _ _ _ h => h) (Or.inr ⟨by rfl, rfl⟩) (by assumption) ?_)
          | (refine wpAnyH_take (i := 9) (v := ?_) rfl (by kernel_rfl) (by kernel_rfl) (by kernel_rfl) (fun _ _ _ h => h) (Or.inl ⟨by rfl, ?_⟩) (by assumption) ?_
             rotate_left
             (intro w hSw
              (try dsimp only at hSw)
              (go_simp <;> with_reducible rfl)))
        try simp only [Act.put, List.getElem_toArray, List.getElem_cons_zero, List.getElem_cons_succ, List.setIfInBounds_toArray, List.set_cons_zero, List.set_cons_succ]
        refine wpAnyH_ready (rs := [10]) (by kernel_rfl) (by simp) ?_
        refine AllReadyH.cons (i := 10) (o := _) rfl (fun K hK => ?_) ?_
        rotate_left
        · exact AllReadyH.nil
        have GA := al v1 (.cells #[.slice none 0 0, .int .i64 0, .int .i64 0, .slice none 0 0] 27)
        have BO := hide (blk_new v1 (.cells #[.slice none 0 0, .int .i64 0, .int .i64 0, .slice none 0 0] 27))
        have p0 := GA.cell (fun h => h) p0
        have p1 := GA.cell (fun h => h) p1
        have p2 := GA.cell (fun h => h) p2
        have p3 := GA.cell (fun h => h) p3
        have cM4 := GA.cell (fun h => h) cM4
        have cN4 := GA.cell (fun h => h) cN4
        have z4 := GA.cell (fun h => h) z4
        have TZ := hide (TZ0.out.chg GA (fun _ _ h => h))
        have GB := hide (GA0.out.trans GA)
        have SG : Hid (W4.heap.size ≤ v1.heap.size ∧ v1.heap.size ≤ (v1.alloc (.cells #[.slice none 0 0, .int .i64 0, .int .i64 0, .slice none 0 0] 27)).heap.size) := hide ⟨GA0.out.size, GA.size⟩
        clear GA TZ0
        go_simp
        refine hK.out _ _ ⟨p0, p1, p2, p3, cM4, cN4, z4⟩ (fun hHeld => ?_)
        clear hK K
        try simp only [Act.put, List.getElem_toArray, List.getElem_cons_zero, List.getElem_cons_succ, List.setIfInBounds_toArray, List.set_cons_zero, List.set_cons_succ]
        obtain ⟨O, hO⟩ : ∃ O, v1.heap.size = O := ⟨_, rfl⟩
        rw [hO] at BO ⊢
        have HOO := hide hO
        have XO : Hid (∀ x, New (fun x => x < P) W4.drew v1 x → x < (v1.alloc (.cells #[.slice none 0 0, .int .i64 0, .int .i64 0, .slice none 0 0] 27)).heap.size ∧ ¬ x = O) := hide (fun x hx => by have := SG.out; have := HN.out; have := HW2.out; have := HW4.out; rcases hx with hx | hx <;> omega)
        clear hO
        generalize v1.alloc (.cells #[.slice none 0 0, .int .i64 0, .int .i64 0, .slice none 0 0] 27) = v2 at *
        have HNO : Hid (P < O ∧ M < O ∧ N9 < O ∧ gm < O ∧ Y < O ∧ SS < O ∧ K10 < O ∧ W4.heap.size ≤ O) := hide (by have h := HOO.out; have := HN.out; have := HGM2.out; have := YL.out; have := HW2.out; have := HW4.out; have h5 : W4.drew.heap.size = W4.heap.size := rfl; have := SG.out; first | omega | (have h2 : W4.heap.size = O := h; omega))
        refine wpAnyH_ready (rs := [11]) (by kernel_rfl) (by simp) ?_
        refine AllReadyH.cons (i := 11) (o := _) rfl (fun K hK => ?_) ?_
        rotate_left
        · exact AllReadyH.nil
        have bb0 := blk_cell BO.out 0
        have fb0 := blk_free BO.out 0
        have bb1 := blk_cell BO.out 1
        have fb1 := blk_free BO.out 1
        have bb2 := blk_cell BO.out 2
        have fb2 := blk_free BO.out 2
        have bb3 := blk_cell BO.out 3
        have fb3 := blk_free BO.out 3
        simp only [List.getElem?_toArray, List.getElem?_cons_zero, List.getElem?_cons_succ] at bb0 bb1 bb2 bb3
        have NS : Hid (((((v2.setCell ⟨O, 0, none⟩ (.slice za m0.len zc)).setCell ⟨O, 1, none⟩ (.int .i64 m1)).setCell ⟨O, 2, none⟩ (.int .i64 m2)).setCell ⟨O, 3, none⟩ (.slice zd m3.len ze)).heap[O]? = some (.cells #[.slice za m0.len zc, .int .i64 m1, .int .i64 m2, .slice zd m3.len ze] 27) ∧ Chg (fun x => x = O) v2 ((((v2.setCell ⟨O, 0, none⟩ (.slice za m0.len zc)).setCell ⟨O, 1, none⟩ (.int .i64 m1)).setCell ⟨O, 2, none⟩ (.int .i64 m2)).setCell ⟨O, 3, none⟩ (.slice zd m3.len ze))) := hide ⟨(blk_set (blk_set (blk_set (blk_set BO.out 0 (.slice za m0.len zc)) 1 (.int .i64 m1)) 2 (.int .i64 m2)) 3 (.slice zd m3.len ze)), ((((Chg.set v2 O 0 (.slice za m0.len zc)).trans (Chg.set (v2.setCell ⟨O, 0, none⟩ (.slice za m0.len zc)) O 1 (.int .i64 m1))).trans (Chg.set ((v2.setCell ⟨O, 0, none⟩ (.slice za m0.len zc)).setCell ⟨O, 1, none⟩ (.int .i64 m1)) O 2 (.int .i64 m2))).trans (Chg.set (((v2.setCell ⟨O, 0, none⟩ (.slice za m0.len zc)).setCell ⟨O, 1, none⟩ (.int .i64 m1)).setCell ⟨O, 2, none⟩ (.int .i64 m2)) O 3 (.slice zd m3.len ze)))⟩
        go_simp
        refine hK.out _ _ ⟨NS.out.2.cell (by have := HNO.out; omega) p0, NS.out.2.cell (by have := HNO.out; omega) p1, NS.out.2.cell (by have := HNO.out; omega) p2, NS.out.2.cell (by have := HNO.out; omega) p3, NS.out.2.cell (by have := HNO.out; omega) cM4, NS.out.2.cell (by have := HNO.out; omega) cN4, NS.out.2.cell (by have := HNO.out; omega) z4⟩ (fun hHeld => ?_)
        clear hK K
        try simp only [Act.put, List.getElem_toArray, List.getElem_cons_zero, List.getElem_cons_succ, List.setIfInBounds_toArray, List.set_cons_zero, List.set_cons_succ]
        first
          | (refine wpAnyH_take (i := 12) (v := undef) rfl (by kernel_rfl) (by kernel_rfl) (by kernel_rfl) (fun _ _ _ h => h) (Or.inr ⟨by rfl, rfl⟩) (by assumption) ?_)
          | (refine wpAnyH_take (i := 12) (v := ?_) rfl (by kernel_rfl) (by kernel_rfl) (by kernel_rfl) (fun _ _ _ h => h) (Or.inl ⟨by rfl, ?_⟩) (by assumption) ?_
             rotate_left
             (intro w hSw
              (try dsimp only at hSw)
              (go_simp <;> with_reducible rfl)))
        try simp only [Act.put, List.getElem_toArray, List.getElem_cons_zero, List.getElem_cons_succ, List.setIfInBounds_toArray, List.set_cons_zero, List.set_cons_succ]
        first
          | (refine wpAnyH_take (i := 13) (v := undef) rfl (by kernel_rfl) (by kernel_rfl) (by kernel_rfl) (fun _ _ _ h => h) (Or.inr ⟨by rfl, rfl⟩) (by assumption) ?_)
          | (refine wpAnyH_take (i := 13) (v := ?_) rfl (by kernel_rfl) (by kernel_rfl) (by kernel_rfl) (fun _ _ _ h => h) (Or.inl ⟨by rfl, ?_⟩) (by assumption) ?_
             rotate_left
             (intro w hSw
              (try dsimp only at hSw)
              (go_simp <;> with_reducible rfl)))
        try simp only [Act.put, List.getElem_toArray, List.getElem_cons_zero, List.getElem_cons_succ, List.setIfInBounds_toArray, List.set_cons_zero, List.set_cons_succ]
        refine wpAnyH_done (by kernel_rfl) ?_ _
        have GZ : Hid (Chg (fun _ => False) W4 ((((v2.setCell ⟨O, 0, none⟩ (.slice za m0.len zc)).setCell ⟨O, 1, none⟩ (.int .i64 m1)).setCell ⟨O, 2, none⟩ (.int .i64 m2)).setCell ⟨O, 3, none⟩ (.slice zd m3.len ze))) := hide (((GB.out.none (S := fun x => x = O)).trans NS.out.2).mono (fun x hx e => by have := HNO.out; omega))
        have TZ2 := hide ((TZ.out.chg NS.out.2 (fun x hx e => (XO.out x hx).2 e)).up (Y := fun x => x < ((((v2.setCell ⟨O, 0, none⟩ (.slice za m0.len zc)).setCell ⟨O, 1, none⟩ (.int .i64 m1)).setCell ⟨O, 2, none⟩ (.int .i64 m2)).setCell ⟨O, 3, none⟩ (.slice zd m3.len ze)).heap.size) (fun x hx => Nat.lt_of_lt_of_le (XO.out x hx).1 NS.out.2.size))
        have BO2 : Hid (((((v2.setCell ⟨O, 0, none⟩ (.slice za m0.len zc)).setCell ⟨O, 1, none⟩ (.int .i64 m1)).setCell ⟨O, 2, none⟩ (.int .i64 m2)).setCell ⟨O, 3, none⟩ (.slice zd m3.len ze)).heap[O]? = some (.cells #[.slice za m0.len zc, .int .i64 m1, .int .i64 m2, .slice zd m3.len ze] 27)) := hide NS.out.1
        clear TZ NS SG XO HOO hHeld
        gi_wp2
        generalize ((((v2.setCell ⟨O, 0, none⟩ (.slice za m0.len zc)).setCell ⟨O, 1, none⟩ (.int .i64 m1)).setCell ⟨O, 2, none⟩ (.int .i64 m2)).setCell ⟨O, 3, none⟩ (.slice zd m3.len ze)) = W5 at *
        have BY5 := hide (GZ.out.blk (fun h => h) BY4.out)
        have QT5 := hide (QT4.out.all GZ.out)
        have BK5 := hide (GZ.out.blk (fun h => h) BK4.out)
        have BN5 := hide (GZ.out.blk (fun h => h) BN4.out)
        have BS5 := hide (GZ.out.blk (fun h => h) BS4.out)
        clear p0 p1 p2 p3 cM4 cN4 z4 RC BY4 QT4 BK4 BN4 BS4 BM4 BP4
        have i0 : W5.cell? ⟨Y, 0, none⟩ = some (.slice ya m0.len yc) := blk_cell BY5.out 0
        have i1 : W5.cell? ⟨Y, 1, none⟩ = some (.int .i64 m1) := blk_cell BY5.out 1
        have i2 : W5.cell? ⟨Y, 2, none⟩ = some (.int .i64 m2) := blk_cell BY5.out 2
        have i3 : W5.cell? ⟨Y, 3, none⟩ = some (.slice yd m3.len ye) := blk_cell BY5.out 3
        have i4 : W5.cell? ⟨O, 0, none⟩ = some (.slice za m0.len zc) := blk_cell BO2.out 0
        have i5 : W5.cell? ⟨O, 1, none⟩ = some (.int .i64 m1) := blk_cell BO2.out 1
        have i6 : W5.cell? ⟨O, 2, none⟩ = some (.int .i64 m2) := blk_cell BO2.out 2
        have i7 : W5.cell? ⟨O, 3, none⟩ = some (.slice zd m3.len ze) := blk_cell BO2.out 3
        refine region_in_round (fun w' => w'.cell? ⟨Y, 0, none⟩ = some (.slice ya m0.len yc) ∧ w'.cell? ⟨Y, 1, none⟩ = some (.int .i64 m1) ∧ w'.cell? ⟨Y, 2, none⟩ = some (.int .i64 m2) ∧ w'.cell? ⟨Y, 3, none⟩ = some (.slice yd m3.len ye) ∧ w'.cell? ⟨O, 0, none⟩ = some (.slice za m0.len zc) ∧ w'.cell? ⟨O, 1, none⟩ = some (.int .i64 m1) ∧ w'.cell? ⟨O, 2, none⟩ = some (.int .i64 m2) ∧ w'.cell? ⟨O, 3, none⟩ = some (.slice zd m3.len ze)) (by kernel_rfl) (by kernel_rfl) (by rintro ⟨a9, w9, h9⟩; exact h9) (by go_keep) (fun hHeld => ?_)
        first
          | (refine wpAnyH_take (i := 0) (v := undef) rfl (by kernel_rfl) (by kernel_rfl) (by kernel_rfl) (fun _ _ _ h => h) (Or.inr ⟨by rfl, rfl⟩) (by assumption) ?_)
          | (refine wpAnyH_take (i := 0) (v := ?_) rfl (by kernel_rfl) (by kernel_rfl) (by kernel_rfl) (fun _ _ _ h => h) (Or.inl ⟨by rfl, ?_⟩) (by assumption) ?_
             rotate_left
             (intro w hSw
              (try dsimp only at hSw)
              (go_simp <;> with_reducible rfl)))
        try simp only [Act.put, List.getElem_toArray, List.getElem_cons_zero, List.getElem_cons_succ, List.setIfInBounds_toArray, List.set_cons_zero, List.set_cons_succ]
        first
          | (refine wpAnyH_take (i := 1) (v := undef) rfl (by kernel_rfl) (by kernel_rfl) (by kernel_rfl) (fun _ _ _ h => h) (Or.inr ⟨by rfl, rfl⟩) (by assumption) ?_)
          | (refine wpAnyH_take (i := 1) (v := ?_) rfl (by kernel_rfl) (by kernel_rfl) (by kernel_rfl) (fun _ _ _ h => h) (Or.inl ⟨by rfl, ?_⟩) (by assumption) ?_
             rotate_left
             (intro w hSw
              (try dsimp only at hSw)
              (go_simp <;> with_reducible rfl)))
        try simp only [Act.put, List.getElem_toArray, List.getElem_cons_zero, List.getElem_cons_succ, List.setIfInBounds_toArray, List.set_cons_zero, List.set_cons_succ]
        first
          | (refine wpAnyH_take (i := 2) (v := undef) rfl (by kernel_rfl) (by kernel_rfl) (by kernel_rfl) (fun _ _ _ h => h) (Or.inr ⟨by rfl, rfl⟩) (by assumption) ?_)
          | (refine wpAnyH_take (i := 2) (v := ?_) rfl (by kernel_rfl) (by kernel_rfl) (by kernel_rfl) (fun _ _ _ h => h) (Or.inl ⟨by rfl, ?_⟩) (by assumption) ?_
             rotate_left
             (intro w hSw
              (try dsimp only at hSw)
              (go_simp <;> with_reducible rfl)))
        try simp only [Act.put, List.getElem_toArray, List.getElem_cons_zero, List.getElem_cons_succ, List.setIfInBounds_toArray, List.set_cons_zero, List.set_cons_succ]
        first
          | (refine wpAnyH_take (i := 4) (v := undef) rfl (by kernel_rfl) (by kernel_rfl) (by kernel_rfl) (fun _ _ _ h => h) (Or.inr ⟨by rfl, rfl⟩) (by assumption) ?_)
          | (refine wpAnyH_take (i := 4) (v := ?_) rfl (by kernel_rfl) (by kernel_rfl) (by kernel_rfl) (fun _ _ _ h => h) (Or.inl ⟨by rfl, ?_⟩) (by assumption) ?_
             rotate_left
             (intro w hSw
              (try dsimp only at hSw)
              (go_simp <;> with_reducible rfl)))
        try simp only [Act.put, List.getElem_toArray, List.getElem_cons_zero, List.getElem_cons_succ, List.setIfInBounds_toArray, List.set_cons_zero, List.set_cons_succ]
        refine wpAnyH_ready (rs := [3]) (by kernel_rfl) (by simp) ?_
        refine AllReadyH.cons (i := 3) (o := _) rfl (fun K hK => ?_) ?_
        rotate_left
        · exact AllReadyH.nil
        go_simp
        refine (of06_any (m0, m1, m2, m3) OKM.out _ _ W5.drew (fun x h => h) (QT5.out.all (Chg.refl (fun _ => False) W5).drew)).mono ?_
        rintro e v8 ⟨⟨v', rfl, tv⟩, g⟩
        obtain ⟨oa, oc, od, oe, rfl, _, _⟩ := id tv
        dsimp only [Tm.bs, Tm.kd, Tm.ix, Tm.ag]
        have g' := (Chg.refl (fun _ => False) W5).drew.trans g
        have i0 := g'.cell (fun h => h) i0
        have i1 := g'.cell (fun h => h) i1
        have i2 := g'.cell (fun h => h) i2
        have i3 := g'.cell (fun h => h) i3
        have i4 := g'.cell (fun h => h) i4
        have i5 := g'.cell (fun h => h) i5
        have i6 := g'.cell (fun h => h) i6
        have i7 := g'.cell (fun h => h) i7
        have GU := hide g'
        have TO := hide (tv_new' tv)
        clear tv g g'
        go_simp
        refine hK.out _ _ ⟨i0, i1, i2, i3, i4, i5, i6, i7⟩ (fun hHeld => ?_)
        clear hK K
        try simp only [Act.put, List.getElem_toArray, List.getElem_cons_zero, List.getElem_cons_succ, List.setIfInBounds_toArray, List.set_cons_zero, List.set_cons_succ]
        refine wpAnyH_ready (rs := [5]) (by kernel_rfl) (by simp) ?_
        refine AllReadyH.cons (i := 5) (o := _) rfl (fun K hK => ?_) ?_
        rotate_left
        · exact AllReadyH.nil
        go_simp
        refine (same06_any (m0, m1, m2, m3) OKM.out _ _ _ v8 (fun x h => h) TO.out (TZ2.out.all GU.out)).mono ?_
        rintro e v9 ⟨rfl, g'⟩
        have i0 := g'.cell (fun h => h) i0
        have i1 := g'.cell (fun h => h) i1
        have i2 := g'.cell (fun h => h) i2
        have i3 := g'.cell (fun h => h) i3
        have i4 := g'.cell (fun h => h) i4
        have i5 := g'.cell (fun h => h) i5
        have i6 := g'.cell (fun h => h) i6
        have i7 := g'.cell (fun h => h) i7
        have GU9 := hide (GU.out.trans g')
        have BK9 := hide (GU9.out.blk (fun h => h) BK5.out)
        have cK9 : v9.cell? ⟨K10, 0, none⟩ = some (.bool true) := blk_cell BK9.out 0
        have fK9 := blk_free BK9.out 0
        clear g'
        go_simp
        refine hK.out _ _ ⟨i0, i1, i2, i3, i4, i5, i6, i7⟩ (fun hHeld => ?_)
        clear hK K
        try simp only [Act.put, List.getElem_toArray, List.getElem_cons_zero, List.getElem_cons_succ, List.setIfInBounds_toArray, List.set_cons_zero, List.set_cons_succ]
        first
          | (refine wpAnyH_take (i := 6) (v := undef) rfl (by kernel_rfl) (by kernel_rfl) (by kernel_rfl) (fun _ _ _ h => h) (Or.inr ⟨by rfl, rfl⟩) (by assumption) ?_)
          | (refine wpAnyH_take (i := 6) (v := ?_) rfl (by kernel_rfl) (by kernel_rfl) (by kernel_rfl) (fun _ _ _ h => h) (Or.inl ⟨by rfl, ?_⟩) (by assumption) ?_
             rotate_left
             (intro w hSw
              (try dsimp only at hSw)
              (go_simp <;> with_reducible rfl)))
        try simp only [Act.put, List.getElem_toArray, List.getElem_cons_zero, List.getElem_cons_succ, List.setIfInBounds_toArray, List.set_cons_zero, List.set_cons_succ]
        refine wpAnyH_ready (rs := [7]) (by kernel_rfl) (by simp) ?_
        refine AllReadyH.cons (i := 7) (o := _) rfl (fun K hK => ?_) ?_
        rotate_left
        · exact AllReadyH.nil
        have GS9 := hide (Chg.set v9 K10 0 (.bool true))
        have BK6 := hide (blk_set BK9.out 0 (.bool true))
        go_simp
        refine hK.out _ _ ⟨GS9.out.cell (by have := HNO.out; have := HN.out; have := HYW.out; omega) i0, GS9.out.cell (by have := HNO.out; have := HN.out; have := HYW.out; omega) i1, GS9.out.cell (by have := HNO.out; have := HN.out; have := HYW.out; omega) i2, GS9.out.cell (by have := HNO.out; have := HN.out; have := HYW.out; omega) i3, GS9.out.cell (by have := HNO.out; have := HN.out; have := HYW.out; omega) i4, GS9.out.cell (by have := HNO.out; have := HN.out; have := HYW.out; omega) i5, GS9.out.cell (by have := HNO.out; have := HN.out; have := HYW.out; omega) i6, GS9.out.cell (by have := HNO.out; have := HN.out; have := HYW.out; omega) i7⟩ (fun hHeld => ?_)
        clear hK K
        try simp only [Act.put, List.getElem_toArray, List.getElem_cons_zero, List.getElem_cons_succ, List.setIfInBounds_toArray, List.set_cons_zero, List.set_cons_succ]
        refine wpAnyH_done (by kernel_rfl) ?_ _
        have G6 : Hid (Chg (fun x => x = K10) W5 (v9.setCell ⟨K10, 0, none⟩ (.bool true))) := hide (GU9.out.none.trans GS9.out)
        have BN6 := hide (G6.out.blk (by have := HN.out; omega) BN5.out)
        have BS6 := hide (G6.out.blk (by have := HN.out; omega) BS5.out)
        clear hHeld GU GU9 GS9 TO cK9 fK9 BK9 BK5 BN5 BS5 i0 i1 i2 i3 i4 i5 i6 i7 BY5 QT5 TZ2 BO2
        have n6 : (v9.setCell ⟨K10, 0, none⟩ (.bool true)).cell? ⟨N9, 0, none⟩ = some (.int .i64 (n : Int)) := blk_cell BN6.out 0
        have nf6 := blk_free BN6.out 0
        have BN7 := hide (blk_set BN6.out 0 (.int .i64 ((n : Int) + 1)))
        have G7 := hide (Chg.set (v9.setCell ⟨K10, 0, none⟩ (.bool true)) N9 0 (.int .i64 ((n : Int) + 1)))
        have BK7 := hide (G7.out.blk (by have := HN.out; omega) BK6.out)
        have BS7 := hide (G7.out.blk (by have := HN.out; omega) BS6.out)
        generalize (v9.setCell ⟨K10, 0, none⟩ (.bool true)) = W6 at *
        have n7 : (W6.setCell ⟨N9, 0, none⟩ (.int .i64 ((n : Int) + 1))).cell? ⟨N9, 0, none⟩ = some (.int .i64 ((n : Int) + 1)) := blk_cell BN7.out 0
        have k7 : (W6.setCell ⟨N9, 0, none⟩ (.int .i64 ((n : Int) + 1))).cell? ⟨K10, 0, none⟩ = some (.bool true) := blk_cell BK7.out 0
        have s7 : (W6.setCell ⟨N9, 0, none⟩ (.int .i64 ((n : Int) + 1))).cell? ⟨SS, 0, none⟩ = some (.int .i64 (K : Int)) := blk_cell BS7.out 0
        have G27 : Hid (Chg (fun x => x = N9 ∨ x = K10) W2 (W6.setCell ⟨N9, 0, none⟩ (.int .i64 ((n : Int) + 1)))) := hide ((((G4.out.mono (T := fun x => x = N9 ∨ x = K10) (fun x _ h => Or.inr h)).trans (GZ.out.none)).trans (G6.out.mono (fun x _ h => Or.inr h))).trans (G7.out.mono (fun x _ h => Or.inl h)))
        have G07 := hide (G2.out.trans G27.out)
        have KP := hide (keeps_of (B := W0.heap.size) G27.out (fun x hx => by have := HN.out; omega))
        have KQ : Hid (KpG (fun k t => k ≠ N9 ∧ k ≠ K10) W2 (W6.setCell ⟨N9, 0, none⟩ (.int .i64 ((n : Int) + 1)))) := hide (KpG.of_chg G27.out (fun k c t fr hS _ hg => by rcases hS with hS | hS; exact hg.1 hS; exact hg.2 hS))
        have hK2' := hK2
        have HNK := HPK.out
        by_cases hk : n + 1 = K
        · have hk2 : (K : Int) = (n : Int) + 1 := by omega
          rw [hk2] at s7
          have F : Hid (SX W0 N9 K10 K (.exit 2) (pre ++ [(.slice pa p.length pc, (.agg #[.slice ya m0.len yc, .int .i64 m1, .int .i64 m2, .slice yd m3.len ye]), p, (m0, m1, m2, m3))]) (W6.setCell ⟨N9, 0, none⟩ (.int .i64 ((n : Int) + 1)))) := hide ⟨rfl, by rw [List.length_append, HNN.out]; exact BN7.out, BK7.out, G07.out, by rw [List.length_append, HNN.out]; exact hk⟩
          clear hk
          gi_wp2
          exact ⟨KP.out, F.out⟩
        · have hk2 : ¬ (n : Int) + 1 = (K : Int) := by omega
          have F : Hid (SI W0 N9 K10 K (pre ++ [(.slice pa p.length pc, (.agg #[.slice ya m0.len yc, .int .i64 m1, .int .i64 m2, .slice yd m3.len ye]), p, (m0, m1, m2, m3))]) (W6.setCell ⟨N9, 0, none⟩ (.int .i64 ((n : Int) + 1)))) := hide ⟨by rw [List.length_append, HNN.out]; exact BN7.out, BK7.out, G07.out, by rw [List.length_append, HNN.out]; simp; omega⟩
          clear hk
          gi_wp2
          exact ⟨KP.out, KQ.out, F.out⟩
      refine AllReadyH.cons (i := 10) (o := _) rfl (fun K hK => ?_) ?_
      rotate_left
      · exact AllReadyH.nil
      have GA := (al W4 (.cells #[.slice none 0 0, .int .i64 0, .int .i64 0, .slice none 0 0] 27)).drew
      have BO : Hid ((W4.alloc (.cells #[.slice none 0 0, .int .i64 0, .int .i64 0, .slice none 0 0] 27)).drew.heap[W4.heap.size]? = some (.cells #[.slice none 0 0, .int .i64 0, .int .i64 0, .slice none 0 0] 27)) := hide (blk_new W4 (.cells #[.slice none 0 0, .int .i64 0, .int .i64 0, .slice none 0 0] 27))
      have p0 := GA.cell (fun h => h) p0
      have p1 := GA.cell (fun h => h) p1
      have p2 := GA.cell (fun h => h) p2
      have p3 := GA.cell (fun h => h) p3
      have cM4 := GA.cell (fun h => h) cM4
      have cN4 := GA.cell (fun h => h) cN4
      have z4 := GA.cell (fun h => h) z4
      have GA0 := hide GA
      have SG0 : Hid (W4.heap.size < (W4.alloc (.cells #[.slice none 0 0, .int .i64 0, .int .i64 0, .slice none 0 0] 27)).drew.heap.size) := hide (blk_lt BO.out)
      clear GA
      go_simp
      refine hK.out _ _ ⟨p0, p1, p2, p3, cM4, cN4, z4⟩ (fun hHeld => ?_)
      clear hK K
      try simp only [Act.put, List.getElem_toArray, List.getElem_cons_zero, List.getElem_cons_succ, List.setIfInBounds_toArray, List.set_cons_zero, List.set_cons_succ]
      obtain ⟨O, hO⟩ : ∃ O, W4.heap.size = O := ⟨_, rfl⟩
      rw [hO] at BO ⊢
      have HOO := hide hO
      clear hO
      generalize (W4.alloc (.cells #[.slice none 0 0, .int .i64 0, .int .i64 0, .slice none 0 0] 27)).drew = v2 at *
      refine wpAnyH_ready (rs := [5]) (by kernel_rfl) (by simp) ?_
      refine AllReadyH.cons (i := 5) (o := _) rfl (fun K hK => ?_) ?_
      rotate_left
      · exact AllReadyH.nil
      go_simp
      refine (RC.out _ GA0.out).mono ?_
      rintro e v1 ⟨⟨v', vz, rfl, tz, tl⟩, g⟩
      obtain ⟨za, zc, zd, ze, rfl, _, _⟩ := id tz
      dsimp only [Tm.bs, Tm.kd, Tm.ix, Tm.ag]
      have p0 := g.cell (fun h => h) p0
      have p1 := g.cell (fun h => h) p1
      have p2 := g.cell (fun h => h) p2
      have p3 := g.cell (fun h => h) p3
      have cM4 := g.cell (fun h => h) cM4
      have cN4 := g.cell (fun h => h) cN4
      have z4 := g.cell (fun h => h) z4
      have BO := hide (g.blk (fun h => h) BO.out)
      have TZ := hide tz
      have GB := hide (GA0.out.trans g)
      have SG : Hid (W4.heap.size < v2.heap.size ∧ v2.heap.size ≤ v1.heap.size) := hide ⟨SG0.out, g.size⟩
      have XO : Hid (∀ x, New (fun x => x < P) v2 v1 x → x < v1.heap.size ∧ ¬ x = O) := hide (fun x hx => by have := SG.out; have := HOO.out; have := HN.out; have := HW2.out; have := HW4.out; rcases hx with hx | hx <;> omega)
      clear tz tl g
      go_simp
      refine hK.out _ _ ⟨p0, p1, p2, p3, cM4, cN4, z4⟩ (fun hHeld => ?_)
      clear hK K
      try simp only [Act.put, List.getElem_toArray, List.getElem_cons_zero, List.getElem_cons_succ, List.setIfInBounds_toArray, List.set_cons_zero, List.set_cons_succ]
      first
        | (refine wpAnyH_take (i := 6) (v := undef) rfl (by kernel_rfl) (by kernel_rfl) (by kernel_rfl) (fun _ _ _ h => h) (Or.inr ⟨by rfl, rfl⟩) (by assumption) ?_)
        | (refine wpAnyH_take (i := 6) (v := ?_) rfl (by kernel_rfl) (by kernel_rfl) (by kernel_rfl) (fun _ _ _ h => h) (Or.inl ⟨by rfl, ?_⟩) (by assumption) ?_
           rotate_left
           (intro w hSw
            (try dsimp only at hSw)
            (go_simp <;> with_reducible rfl)))
      try simp only [Act.put, List.getElem_toArray, List.getElem_cons_zero, List.getElem_cons_succ, List.setIfInBounds_toArray, List.set_cons_zero, List.set_cons_succ]
      first
        | (refine wpAnyH_take (i := 7) (v := undef) rfl (by kernel_rfl) (by kernel_rfl) (by kernel_rfl) (fun _ _ _ h => h) (Or.inr ⟨by rfl, rfl⟩) (by assumption) ?_)
        | (refine wpAnyH_take (i := 7) (v := ?_) rfl (by kernel_rfl) (by kernel_rfl) (by kernel_rfl) (fun _ _ _ h => h) (Or.inl ⟨by rfl, ?_⟩) (by assumption) ?_
           rotate_left
           (intro w hSw
            (try dsimp only at hSw)
            (go_simp <;> with_reducible rfl)))
      try simp only [Act.put, List.getElem_toArray, List.getElem_cons_zero, List.getElem_cons_succ, List.setIfInBounds_toArray, List.set_cons_zero, List.set_cons_succ]
      first
        | (refine wpAnyH_take (i := 8) (v := undef) rfl (by kernel_rfl) (by kernel_rfl) (by kernel_rfl) (fun _ _ _ h => h) (Or.inr ⟨by rfl, rfl⟩) (by assumption) ?_)
        | (refine wpAnyH_take (i := 8) (v := ?_) rfl (by kernel_rfl) (by kernel_rfl) (by kernel_rfl) (fun _ _ _ h => h) (Or.inl ⟨by rfl, ?_⟩) (by assumption) ?_
           rotate_left
           (intro w hSw
            (try dsimp only at hSw)
            (go_simp <;> with_reducible rfl)))
      try simp only [Act.put, List.getElem_toArray, List.getElem_cons_zero, List.getElem_cons_succ, List.setIfInBounds_toArray, List.set_cons_zero, List.set_cons_succ]
      first
        | (refine wpAnyH_take (i := 9) (v := undef) rfl (by kernel_rfl) (by kernel_rfl) (by kernel_rfl) (fun _ _ _ h => h) (Or.inr ⟨by rfl, rfl⟩) (by assumption) ?_)
        | (refine wpAnyH_take (i := 9) (v := ?_) rfl (by kernel_rfl) (by kernel_rfl) (by kernel_rfl) (fun _ _ _ h => h) (Or.inl ⟨by rfl, ?_⟩) (by assumption) ?_
           rotate_left
           (intro w hSw
            (try dsimp only at hSw)
            (go_simp <;> with_reducible rfl)))
      try simp only [Act.put, List.getElem_toArray, List.getElem_cons_zero, List.getElem_cons_succ, List.setIfInBounds_toArray, List.set_cons_zero, List.set_cons_succ]
      have HNO : Hid (P < O ∧ M < O ∧ N9 < O ∧ gm < O ∧ Y < O ∧ SS < O ∧ K10 < O ∧ W4.heap.size ≤ O) := hide (by have h := HOO.out; have := HN.out; have := HGM2.out; have := YL.out; have := HW2.out; have := HW4.out; have h5 : W4.drew.heap.size = W4.heap.size := rfl; have := SG.out; first | omega | (have h2 : W4.heap.size = O := h; omega))
      refine wpAnyH_ready (rs := [11]) (by kernel_rfl) (by simp) ?_
      refine AllReadyH.cons (i := 11) (o := _) rfl (fun K hK => ?_) ?_
      rotate_left
      · exact AllReadyH.nil
      have bb0 := blk_cell BO.out 0
      have fb0 := blk_free BO.out 0
      have bb1 := blk_cell BO.out 1
      have fb1 := blk_free BO.out 1
      have bb2 := blk_cell BO.out 2
      have fb2 := blk_free BO.out 2
      have bb3 := blk_cell BO.out 3
      have fb3 := blk_free BO.out 3
      simp only [List.getElem?_toArray, List.getElem?_cons_zero, List.getElem?_cons_succ] at bb0 bb1 bb2 bb3
      have NS : Hid (((((v1.setCell ⟨O, 0, none⟩ (.slice za m0.len zc)).setCell ⟨O, 1, none⟩ (.int .i64 m1)).setCell ⟨O, 2, none⟩ (.int .i64 m2)).setCell ⟨O, 3, none⟩ (.slice zd m3.len ze)).heap[O]? = some (.cells #[.slice za m0.len zc, .int .i64 m1, .int .i64 m2, .slice zd m3.len ze] 27) ∧ Chg (fun x => x = O) v1 ((((v1.setCell ⟨O, 0, none⟩ (.slice za m0.len zc)).setCell ⟨O, 1, none⟩ (.int .i64 m1)).setCell ⟨O, 2, none⟩ (.int .i64 m2)).setCell ⟨O, 3, none⟩ (.slice zd m3.len ze))) := hide ⟨(blk_set (blk_set (blk_set (blk_set BO.out 0 (.slice za m0.len zc)) 1 (.int .i64 m1)) 2 (.int .i64 m2)) 3 (.slice zd m3.len ze)), ((((Chg.set v1 O 0 (.slice za m0.len zc)).trans (Chg.set (v1.setCell ⟨O, 0, none⟩ (.slice za m0.len zc)) O 1 (.int .i64 m1))).trans (Chg.set ((v1.setCell ⟨O, 0, none⟩ (.slice za m0.len zc)).setCell ⟨O, 1, none⟩ (.int .i64 m1)) O 2 (.int .i64 m2))).trans (Chg.set (((v1.setCell ⟨O, 0, none⟩ (.slice za m0.len zc)).setCell ⟨O, 1, none⟩ (.int .i64 m1)).setCell ⟨O, 2, none⟩ (.int .i64 m2)) O 3 (.slice zd m3.len ze)))⟩
      go_simp
      refine hK.out _ _ ⟨NS.out.2.cell (by have := HNO.out; omega) p0, NS.out.2.cell (by have := HNO.out; omega) p1, NS.out.2.cell (by have := HNO.out; omega) p2, NS.out.2.cell (by have := HNO.out; omega) p3, NS.out.2.cell (by have := HNO.out; omega) cM4, NS.out.2.cell (by have := HNO.out; omega) cN4, NS.out.2.cell (by have := HNO.out; omega) z4⟩ (fun hHeld => ?_)
      clear hK K
      try simp only [Act.put, List.getElem_toArray, List.getElem_cons_zero, List.getElem_cons_succ, List.setIfInBounds_toArray, List.set_cons_zero, List.set_cons_succ]
      first
        | (refine wpAnyH_take (i := 12) (v := undef) rfl (by kernel_rfl) (by kernel_rfl) (by kernel_rfl) (fun _ _ _ h => h) (Or.inr ⟨by rfl, rfl⟩) (by assumption) ?_)
        | (refine wpAnyH_take (i := 12) (v := ?_) rfl (by kernel_rfl) (by kernel_rfl) (by kernel_rfl) (fun _ _ _ h => h) (Or.inl ⟨by rfl, ?_⟩) (by assumption) ?_
           rotate_left
           (intro w hSw
            (try dsimp only at hSw)
            (go_simp <;> with_reducible rfl)))
      try simp only [Act.put, List.getElem_toArray, List.getElem_cons_zero, List.getElem_cons_succ, List.setIfInBounds_toArray, List.set_cons_zero, List.set_cons_succ]
      first
        | (refine wpAnyH_take (i := 13) (v := undef) rfl (by kernel_rfl) (by kernel_rfl) (by kernel_rfl) (fun _ _ _ h => h) (Or.inr ⟨by rfl, rfl⟩) (by assumption) ?_)
        | (refine wpAnyH_take (i := 13) (v := ?_) rfl (by kernel_rfl) (by kernel_rfl) (by kernel_rfl) (fun _ _ _ h => h) (Or.inl ⟨by rfl, ?_⟩) (by assumption) ?_
           rotate_left
           (intro w hSw
            (try dsimp only at hSw)
            (go_simp <;> with_reducible rfl)))
      try simp only [Act.put, List.getElem_toArray, List.getElem_cons_zero, List.getElem_cons_succ, List.setIfInBounds_toArray, List.set_cons_zero, List.set_cons_succ]
      refine wpAnyH_done (by kernel_rfl) ?_ _
      have GZ : Hid (Chg (fun _ => False) W4 ((((v1.setCell ⟨O, 0, none⟩ (.slice za m0.len zc)).setCell ⟨O, 1, none⟩ (.int .i64 m1)).setCell ⟨O, 2, none⟩ (.int .i64 m2)).setCell ⟨O, 3, none⟩ (.slice zd m3.len ze))) := hide (((GB.out.none (S := fun x => x = O)).trans NS.out.2).mono (fun x hx e => by have := HNO.out; omega))
      have TZ2 := hide ((TZ.out.chg NS.out.2 (fun x hx e => (XO.out x hx).2 e)).up (Y := fun x => x < ((((v1.setCell ⟨O, 0, none⟩ (.slice za m0.len zc)).setCell ⟨O, 1, none⟩ (.int .i64 m1)).setCell ⟨O, 2, none⟩ (.int .i64 m2)).setCell ⟨O, 3, none⟩ (.slice zd m3.len ze)).heap.size) (fun x hx => Nat.lt_of_lt_of_le (XO.out x hx).1 NS.out.2.size))
      have BO2 : Hid (((((v1.setCell ⟨O, 0, none⟩ (.slice za m0.len zc)).setCell ⟨O, 1, none⟩ (.int .i64 m1)).setCell ⟨O, 2, none⟩ (.int .i64 m2)).setCell ⟨O, 3, none⟩ (.slice zd m3.len ze)).heap[O]? = some (.cells #[.slice za m0.len zc, .int .i64 m1, .int .i64 m2, .slice zd m3.len ze] 27)) := hide NS.out.1
      clear TZ NS SG XO HOO hHeld
      gi_wp2
      generalize ((((v1.setCell ⟨O, 0, none⟩ (.slice za m0.len zc)).setCell ⟨O, 1, none⟩ (.int .i64 m1)).setCell ⟨O, 2, none⟩ (.int .i64 m2)).setCell ⟨O, 3, none⟩ (.slice zd m3.len ze)) = W5 at *
      have BY5 := hide (GZ.out.blk (fun h => h) BY4.out)
      have QT5 := hide (QT4.out.all GZ.out)
      have BK5 := hide (GZ.out.blk (fun h => h) BK4.out)
      have BN5 := hide (GZ.out.blk (fun h => h) BN4.out)
      have BS5 := hide (GZ.out.blk (fun h => h) BS4.out)
      clear p0 p1 p2 p3 cM4 cN4 z4 RC BY4 QT4 BK4 BN4 BS4 BM4 BP4
      have i0 : W5.cell? ⟨Y, 0, none⟩ = some (.slice ya m0.len yc) := blk_cell BY5.out 0
      have i1 : W5.cell? ⟨Y, 1, none⟩ = some (.int .i64 m1) := blk_cell BY5.out 1
      have i2 : W5.cell? ⟨Y, 2, none⟩ = some (.int .i64 m2) := blk_cell BY5.out 2
      have i3 : W5.cell? ⟨Y, 3, none⟩ = some (.slice yd m3.len ye) := blk_cell BY5.out 3
      have i4 : W5.cell? ⟨O, 0, none⟩ = some (.slice za m0.len zc) := blk_cell BO2.out 0
      have i5 : W5.cell? ⟨O, 1, none⟩ = some (.int .i64 m1) := blk_cell BO2.out 1
      have i6 : W5.cell? ⟨O, 2, none⟩ = some (.int .i64 m2) := blk_cell BO2.out 2
      have i7 : W5.cell? ⟨O, 3, none⟩ = some (.slice zd m3.len ze) := blk_cell BO2.out 3
      refine region_in_round (fun w' => w'.cell? ⟨Y, 0, none⟩ = some (.slice ya m0.len yc) ∧ w'.cell? ⟨Y, 1, none⟩ = some (.int .i64 m1) ∧ w'.cell? ⟨Y, 2, none⟩ = some (.int .i64 m2) ∧ w'.cell? ⟨Y, 3, none⟩ = some (.slice yd m3.len ye) ∧ w'.cell? ⟨O, 0, none⟩ = some (.slice za m0.len zc) ∧ w'.cell? ⟨O, 1, none⟩ = some (.int .i64 m1) ∧ w'.cell? ⟨O, 2, none⟩ = some (.int .i64 m2) ∧ w'.cell? ⟨O, 3, none⟩ = some (.slice zd m3.len ze)) (by kernel_rfl) (by kernel_rfl) (by rintro ⟨a9, w9, h9⟩; exact h9) (by go_keep) (fun hHeld => ?_)
      first
        | (refine wpAnyH_take (i := 0) (v := undef) rfl (by kernel_rfl) (by kernel_rfl) (by kernel_rfl) (fun _ _ _ h => h) (Or.inr ⟨by rfl, rfl⟩) (by assumption) ?_)
        | (refine wpAnyH_take (i := 0) (v := ?_) rfl (by kernel_rfl) (by kernel_rfl) (by kernel_rfl) (fun _ _ _ h => h) (Or.inl ⟨by rfl, ?_⟩) (by assumption) ?_
           rotate_left
           (intro w hSw
            (try dsimp only at hSw)
            (go_simp <;> with_reducible rfl)))
      try simp only [Act.put, List.getElem_toArray, List.getElem_cons_zero, List.getElem_cons_succ, List.setIfInBounds_toArray, List.set_cons_zero, List.set_cons_succ]
      first
        | (refine wpAnyH_take (i := 1) (v := undef) rfl (by kernel_rfl) (by kernel_rfl) (by kernel_rfl) (fun _ _ _ h => h) (Or.inr ⟨by rfl, rfl⟩) (by assumption) ?_)
        | (refine wpAnyH_take (i := 1) (v := ?_) rfl (by kernel_rfl) (by kernel_rfl) (by kernel_rfl) (fun _ _ _ h => h) (Or.inl ⟨by rfl, ?_⟩) (by assumption) ?_
           rotate_left
           (intro w hSw
            (try dsimp only at hSw)
            (go_simp <;> with_reducible rfl)))
      try simp only [Act.put, List.getElem_toArray, List.getElem_cons_zero, List.getElem_cons_succ, List.setIfInBounds_toArray, List.set_cons_zero, List.set_cons_succ]
      first
        | (refine wpAnyH_take (i := 2) (v := undef) rfl (by kernel_rfl) (by kernel_rfl) (by kernel_rfl) (fun _ _ _ h => h) (Or.inr ⟨by rfl, rfl⟩) (by assumption) ?_)
        | (refine wpAnyH_take (i := 2) (v := ?_) rfl (by kernel_rfl) (by kernel_rfl) (by kernel_rfl) (fun _ _ _ h => h) (Or.inl ⟨by rfl, ?_⟩) (by assumption) ?_
           rotate_left
           (intro w hSw
            (try dsimp only at hSw)
            (go_simp <;> with_reducible rfl)))
      try simp only [Act.put, List.getElem_toArray, List.getElem_cons_zero, List.getElem_cons_succ, List.setIfInBounds_toArray, List.set_cons_zero, List.set_cons_succ]
      first
        | (refine wpAnyH_take (i := 4) (v := undef) rfl (by kernel_rfl) (by kernel_rfl) (by kernel_rfl) (fun _ _ _ h => h) (Or.inr ⟨by rfl, rfl⟩) (by assumption) ?_)
        | (refine wpAnyH_take (i := 4) (v := ?_) rfl (by kernel_rfl) (by kernel_rfl) (by kernel_rfl) (fun _ _ _ h => h) (Or.inl ⟨by rfl, ?_⟩) (by assumption) ?_
           rotate_left
           (intro w hSw
            (try dsimp only at hSw)
            (go_simp <;> with_reducible rfl)))
      try simp only [Act.put, List.getElem_toArray, List.getElem_cons_zero, List.getElem_cons_succ, List.setIfInBounds_toArray, List.set_cons_zero, List.set_cons_succ]
      refine wpAnyH_ready (rs := [3]) (by kernel_rfl) (by simp) ?_
      refine AllReadyH.cons (i := 3) (o := _) rfl (fun K hK => ?_) ?_
      rotate_left
      · exact AllReadyH.nil
      go_simp
      refine (of06_any (m0, m1, m2, m3) OKM.out _ _ W5.drew (fun x h => h) (QT5.out.all (Chg.refl (fun _ => False) W5).drew)).mono ?_
      rintro e v8 ⟨⟨v', rfl, tv⟩, g⟩
      obtain ⟨oa, oc, od, oe, rfl, _, _⟩ := id tv
      dsimp only [Tm.bs, Tm.kd, Tm.ix, Tm.ag]
      have g' := (Chg.refl (fun _ => False) W5).drew.trans g
      have i0 := g'.cell (fun h => h) i0
      have i1 := g'.cell (fun h => h) i1
      have i2 := g'.cell (fun h => h) i2
      have i3 := g'.cell (fun h => h) i3
      have i4 := g'.cell (fun h => h) i4
      have i5 := g'.cell (fun h => h) i5
      have i6 := g'.cell (fun h => h) i6
      have i7 := g'.cell (fun h => h) i7
      have GU := hide g'
      have TO := hide (tv_new' tv)
      clear tv g g'
      go_simp
      refine hK.out _ _ ⟨i0, i1, i2, i3, i4, i5, i6, i7⟩ (fun hHeld => ?_)
      clear hK K
      try simp only [Act.put, List.getElem_toArray, List.getElem_cons_zero, List.getElem_cons_succ, List.setIfInBounds_toArray, List.set_cons_zero, List.set_cons_succ]
      refine wpAnyH_ready (rs := [5]) (by kernel_rfl) (by simp) ?_
      refine AllReadyH.cons (i := 5) (o := _) rfl (fun K hK => ?_) ?_
      rotate_left
      · exact AllReadyH.nil
      go_simp
      refine (same06_any (m0, m1, m2, m3) OKM.out _ _ _ v8 (fun x h => h) TO.out (TZ2.out.all GU.out)).mono ?_
      rintro e v9 ⟨rfl, g'⟩
      have i0 := g'.cell (fun h => h) i0
      have i1 := g'.cell (fun h => h) i1
      have i2 := g'.cell (fun h => h) i2
      have i3 := g'.cell (fun h => h) i3
      have i4 := g'.cell (fun h => h) i4
      have i5 := g'.cell (fun h => h) i5
      have i6 := g'.cell (fun h => h) i6
      have i7 := g'.cell (fun h => h) i7
      have GU9 := hide (GU.out.trans g')
      have BK9 := hide (GU9.out.blk (fun h => h) BK5.out)
      have cK9 : v9.cell? ⟨K10, 0, none⟩ = some (.bool true) := blk_cell BK9.out 0
      have fK9 := blk_free BK9.out 0
      clear g'
      go_simp
      refine hK.out _ _ ⟨i0, i1, i2, i3, i4, i5, i6, i7⟩ (fun hHeld => ?_)
      clear hK K
      try simp only [Act.put, List.getElem_toArray, List.getElem_cons_zero, List.getElem_cons_succ, List.setIfInBounds_toArray, List.set_cons_zero, List.set_cons_succ]
      first
        | (refine wpAnyH_take (i := 6) (v := undef) rfl (by kernel_rfl) (by kernel_rfl) (by kernel_rfl) (fun _ _ _ h => h) (Or.inr ⟨by rfl, rfl⟩) (by assumption) ?_)
        | (refine wpAnyH_take (i := 6) (v := ?_) rfl (by kernel_rfl) (by kernel_rfl) (by kernel_rfl) (fun _ _ _ h => h) (Or.inl ⟨by rfl, ?_⟩) (by assumption) ?_
           rotate_left
           (intro w hSw
            (try dsimp only at hSw)
            (go_simp <;> with_reducible rfl)))
      try simp only [Act.put, List.getElem_toArray, List.getElem_cons_zero, List.getElem_cons_succ, List.setIfInBounds_toArray, List.set_cons_zero, List.set_cons_succ]
      refine wpAnyH_ready (rs := [7]) (by kernel_rfl) (by simp) ?_
      refine AllReadyH.cons (i := 7) (o := _) rfl (fun K hK => ?_) ?_
      rotate_left
      · exact AllReadyH.nil
      have GS9 := hide (Chg.set v9 K10 0 (.bool true))
      have BK6 := hide (blk_set BK9.out 0 (.bool true))
      go_simp
      refine hK.out _ _ ⟨GS9.out.cell (by have := HNO.out; have := HN.out; have := HYW.out; omega) i0, GS9.out.cell (by have := HNO.out; have := HN.out; have := HYW.out; omega) i1, GS9.out.cell (by have := HNO.out; have := HN.out; have := HYW.out; omega) i2, GS9.out.cell (by have := HNO.out; have := HN.out; have := HYW.out; omega) i3, GS9.out.cell (by have := HNO.out; have := HN.out; have := HYW.out; omega) i4, GS9.out.cell (by have := HNO.out; have := HN.out; have := HYW.out; omega) i5, GS9.out.cell (by have := HNO.out; have := HN.out; have := HYW.out; omega) i6, GS9.out.cell (by have := HNO.out; have := HN.out; have := HYW.out; omega) i7⟩ (fun hHeld => ?_)
      clear hK K
      try simp only [Act.put, List.getElem_toArray, List.getElem_cons_zero, List.getElem_cons_succ, List.setIfInBounds_toArray, List.set_cons_zero, List.set_cons_succ]
      refine wpAnyH_done (by kernel_rfl) ?_ _
      have G6 : Hid (Chg (fun x => x = K10) W5 (v9.setCell ⟨K10, 0, none⟩ (.bool true))) := hide (GU9.out.none.trans GS9.out)
      have BN6 := hide (G6.out.blk (by have := HN.out; omega) BN5.out)
      have BS6 := hide (G6.out.blk (by have := HN.out; omega) BS5.out)
      clear hHeld GU GU9 GS9 TO cK9 fK9 BK9 BK5 BN5 BS5 i0 i1 i2 i3 i4 i5 i6 i7 BY5 QT5 TZ2 BO2
      have n6 : (v9.setCell ⟨K10, 0, none⟩ (.bool true)).cell? ⟨N9, 0, none⟩ = some (.int .i64 (n : Int)) := blk_cell BN6.out 0
      have nf6 := blk_free BN6.out 0
      have BN7 := hide (blk_set BN6.out 0 (.int .i64 ((n : Int) + 1)))
      have G7 := hide (Chg.set (v9.setCell ⟨K10, 0, none⟩ (.bool true)) N9 0 (.int .i64 ((n : Int) + 1)))
      have BK7 := hide (G7.out.blk (by have := HN.out; omega) BK6.out)
      have BS7 := hide (G7.out.blk (by have := HN.out; omega) BS6.out)
      generalize (v9.setCell ⟨K10, 0, none⟩ (.bool true)) = W6 at *
      have n7 : (W6.setCell ⟨N9, 0, none⟩ (.int .i64 ((n : Int) + 1))).cell? ⟨N9, 0, none⟩ = some (.int .i64 ((n : Int) + 1)) := blk_cell BN7.out 0
      have k7 : (W6.setCell ⟨N9, 0, none⟩ (.int .i64 ((n : Int) + 1))).cell? ⟨K10, 0, none⟩ = some (.bool true) := blk_cell BK7.out 0
      have s7 : (W6.setCell ⟨N9, 0, none⟩ (.int .i64 ((n : Int) + 1))).cell? ⟨SS, 0, none⟩ = some (.int .i64 (K : Int)) := blk_cell BS7.out 0
      have G27 : Hid (Chg (fun x => x = N9 ∨ x = K10) W2 (W6.setCell ⟨N9, 0, none⟩ (.int .i64 ((n : Int) + 1)))) := hide ((((G4.out.mono (T := fun x => x = N9 ∨ x = K10) (fun x _ h => Or.inr h)).trans (GZ.out.none)).trans (G6.out.mono (fun x _ h => Or.inr h))).trans (G7.out.mono (fun x _ h => Or.inl h)))
      have G07 := hide (G2.out.trans G27.out)
      have KP := hide (keeps_of (B := W0.heap.size) G27.out (fun x hx => by have := HN.out; omega))
      have KQ : Hid (KpG (fun k t => k ≠ N9 ∧ k ≠ K10) W2 (W6.setCell ⟨N9, 0, none⟩ (.int .i64 ((n : Int) + 1)))) := hide (KpG.of_chg G27.out (fun k c t fr hS _ hg => by rcases hS with hS | hS; exact hg.1 hS; exact hg.2 hS))
      have hK2' := hK2
      have HNK := HPK.out
      by_cases hk : n + 1 = K
      · have hk2 : (K : Int) = (n : Int) + 1 := by omega
        rw [hk2] at s7
        have F : Hid (SX W0 N9 K10 K (.exit 2) (pre ++ [(.slice pa p.length pc, (.agg #[.slice ya m0.len yc, .int .i64 m1, .int .i64 m2, .slice yd m3.len ye]), p, (m0, m1, m2, m3))]) (W6.setCell ⟨N9, 0, none⟩ (.int .i64 ((n : Int) + 1)))) := hide ⟨rfl, by rw [List.length_append, HNN.out]; exact BN7.out, BK7.out, G07.out, by rw [List.length_append, HNN.out]; exact hk⟩
        clear hk
        gi_wp2
        exact ⟨KP.out, F.out⟩
      · have hk2 : ¬ (n : Int) + 1 = (K : Int) := by omega
        have F : Hid (SI W0 N9 K10 K (pre ++ [(.slice pa p.length pc, (.agg #[.slice ya m0.len yc, .int .i64 m1, .int .i64 m2, .slice yd m3.len ye]), p, (m0, m1, m2, m3))]) (W6.setCell ⟨N9, 0, none⟩ (.int .i64 ((n : Int) + 1)))) := hide ⟨by rw [List.length_append, HNN.out]; exact BN7.out, BK7.out, G07.out, by rw [List.length_append, HNN.out]; simp; omega⟩
        clear hk
        gi_wp2
        exact ⟨KP.out, KQ.out, F.out⟩
    case done =>
      rintro D ys W hD hys hI hK
      obtain ⟨BNd, BKd, GDd, hlt⟩ := hI
      have GD := hide GDd
      have hyl : ys.length = PL.length := by
        have h1 := congrArg List.length hys
        rw [List.length_map] at h1
        rw [h1, ← HPL.out, List.length_map]
      rw [hyl] at BNd hlt
      have hmin : min (K : Int) (PL.length : Int) = (PL.length : Int) := by omega
      clear hys hyl GDd
      have cN : W.cell? ⟨N9, 0, none⟩ = some (.int .i64 (PL.length : Int)) := blk_cell BNd 0
      have cK : W.cell? ⟨K10, 0, none⟩ = some (.bool true) := blk_cell BKd 0
      have cS : W.cell? ⟨SS, 0, none⟩ = some (.int .i64 (K : Int)) := blk_cell (GD.out.blk (by have := HN.out; omega) BS8.out) 0
      have cM : W.cell? ⟨M, 0, none⟩ = some (.slice (some ⟨gm, om, none⟩) PL.length mc) := blk_cell (GD.out.blk (by have := HN.out; omega) BM.out) 0
      have GT := hide ((G.out.none.trans GD.out).mono (T := fun _ => False) (fun x hx e => by have := HN.out; omega))
      have HKD := hide hK
      have HDD : Hid (w.heap.size ≤ D) := hide (by have := HN.out; omega)
      clear hK BNd BKd GD
      go_wp2_with fail
      refine (known_any _).mono ?_
      rintro e w9 ⟨rfl, g9⟩
      have cN9 := g9.cell (fun h => h) cN
      have cK9 := g9.cell (fun h => h) cK
      have cS9 := g9.cell (fun h => h) cS
      have cM9 := g9.cell (fun h => h) cM
      have HK9 := g9.blk (fun h => h) HKD.out
      have GT9 := hide (GT.out.trans g9)
      have hKD9 := hide HK9
      clear g9 cN cK cS cM GT HKD HK9
      go_wp2_with fail
      refine noPanic_ret ?_
      refine ⟨by simp, .inl ⟨_, _, rfl, run_takeDeferred hKD9.out, ?_⟩⟩
      refine ⟨.bool true, by simp [results, Tryd.results4, go_sem], rfl, ?_⟩
      exact (GT9.out.below (Nat.le_refl _) (fun _ h => h.elim)).trans ((Below.refl _ w9).grown (grownBy_putObj' w9 D _) GT9.out.size (fun k e => by cases e; exact HDD.out))
    case stop =>
      rintro D c pre W hD hsp hx hK
      obtain ⟨rfl, BNd, BKd, GDd, hlt⟩ := hx
      have GD := hide GDd
      have hyl : pre.length ≤ PL.length := by
        have h1 := hsp.length_le
        rw [List.length_map] at h1
        rw [← HPL.out, List.length_map]
        exact h1
      rw [hlt] at BNd hyl
      have hmin : min (K : Int) (PL.length : Int) = (K : Int) := by omega
      clear hsp GDd hlt
      gi_wp2
      have cN : W.cell? ⟨N9, 0, none⟩ = some (.int .i64 (K : Int)) := blk_cell BNd 0
      have cK : W.cell? ⟨K10, 0, none⟩ = some (.bool true) := blk_cell BKd 0
      have cS : W.cell? ⟨SS, 0, none⟩ = some (.int .i64 (K : Int)) := blk_cell (GD.out.blk (by have := HN.out; omega) BS8.out) 0
      have cM : W.cell? ⟨M, 0, none⟩ = some (.slice (some ⟨gm, om, none⟩) PL.length mc) := blk_cell (GD.out.blk (by have := HN.out; omega) BM.out) 0
      have GT := hide ((G.out.none.trans GD.out).mono (T := fun _ => False) (fun x hx e => by have := HN.out; omega))
      have HKD := hide hK
      have HDD : Hid (w.heap.size ≤ D) := hide (by have := HN.out; omega)
      clear hK BNd BKd GD
      go_wp2_with fail
      refine (known_any _).mono ?_
      rintro e w9 ⟨rfl, g9⟩
      have cN9 := g9.cell (fun h => h) cN
      have cK9 := g9.cell (fun h => h) cK
      have cS9 := g9.cell (fun h => h) cS
      have cM9 := g9.cell (fun h => h) cM
      have HK9 := g9.blk (fun h => h) HKD.out
      have GT9 := hide (GT.out.trans g9)
      have hKD9 := hide HK9
      clear g9 cN cK cS cM GT HKD HK9
      go_wp2_with fail
      refine noPanic_ret ?_
      refine ⟨by simp, .inl ⟨_, _, rfl, run_takeDeferred hKD9.out, ?_⟩⟩
      refine ⟨.bool true, by simp [results, Tryd.results4, go_sem], rfl, ?_⟩
      exact (GT9.out.below (Nat.le_refl _) (fun _ h => h.elim)).trans ((Below.refl _ w9).grown (grownBy_putObj' w9 D _) GT9.out.size (fun k e => by cases e; exact HDD.out))
theorem alls_law (W : World) (hT : Tabs W) (t : Tm) {v : Value} (hv : TmIs W v t) (stop : Int) (hs : (Lit.int .i64 stop).wf = true) : Calls Tryd.prog 4 #[v, .int .i64 stop] W fun e W' => e = .returned (.bool true) ∧ Below W.heap.size W W' :=
  callsIn_wide.1 (alls_in t stop (wf64 hs) v W hv)
end Go.Proofs.YtnpcapdlgcaniaaDoor
