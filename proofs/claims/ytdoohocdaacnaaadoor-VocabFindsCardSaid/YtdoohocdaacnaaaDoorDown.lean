/- kind.down: tells a type and those within to yield. -/
import Derived.RangeFuncNested
import Derived.RangeFuncKeeps
import Derived.RangeFuncBound
import Derived.RangeFuncLeaves
import Derived.RangeFuncBox
import Derived.RangeFuncCalls
import Derived.Shelf.Abstract
import Derived.OwnWalkIn
import Derived.TacticsInMore
import Derived.LoopNIn
import Derived.LoopIn
import Derived.Test.YtdoohocdaacnaaaDoorArrow
namespace Go.Proofs.YtdoohocdaacnaaaDoor
open Go.RowKit Go.Shelf
attribute [local go_sem] Oper.semAt_some
set_option linter.unusedVariables false
set_option linter.unusedSimpArgs false

theorem room_of_none {F : Fence} (hd : F.depth = none) (k : Nat) : F.room k := fun d h => by rw [hd] at h; cases h
theorem roundIn_any {F : Fence} (hd : F.depth = none) {m m' : Nat} {P : Program} {l : Nat} {f : FuncId} {tmps : Array Value} {assign body : Code} {w : World} {R : Ending → World → Prop}
    (h : RoundIn F m P l f tmps assign body w R) : RoundIn F m' P l f tmps assign body w R := ⟨h.1, fun c cs _ => h.2 c cs (room_of_none hd _)⟩
theorem yieldAt_any {F : Fence} (hd : F.depth = none) {m : Nat} (m' : Nat) {P : Program} {l : Nat} {args : Array Value} {W : World} {R : Ending → World → Prop} (h : YieldAt F m P l args W R) : YieldAt F m' P l args W R := by
  obtain ⟨fn, tmps, assign, body, hy, hR⟩ := h
  exact ⟨fn, tmps, assign, body, hy, roundIn_any hd hR⟩

/-- what a round keeps: the cells outside S -/
def KpC (S : Nat → Prop) (A B : World) : Prop := A.heap.size ≤ B.heap.size ∧ ∀ k c t fr, A.heap[k]? = some (.cells c t fr) → ¬ S k → B.heap[k]? = some (.cells c t fr)
theorem KpC.refl (S : Nat → Prop) (A : World) : KpC S A A := ⟨Nat.le_refl _, fun _ _ _ _ h _ => h⟩
theorem KpC.trans {S : Nat → Prop} {A B C : World} (h : KpC S A B) (k : KpC S B C) : KpC S A C := ⟨Nat.le_trans h.1 k.1, fun i c t fr hi hn => k.2 i c t fr (h.2 i c t fr hi hn) hn⟩
theorem KpC.put (S : Nat → Prop) (W : World) (l : Nat) (o o' : Obj) (ho : W.heap[l]? = some o) (hc : o.isCells = false) : KpC S W (W.putObj l o') := by
  refine ⟨by simp, fun k c t fr hk _ => ?_⟩
  have hne : l ≠ k := by
    rintro rfl
    rw [hk] at ho
    cases ho
    cases hc
  rw [World.putObj_heap_other (fun e => hne e.symm)]
  exact hk
theorem KpC.alloc (S : Nat → Prop) (W : World) (o : Obj) : KpC S W (W.alloc o) := ⟨by simp, fun k c t fr hk _ => (Below.heap_alloc W o k (Array.getElem?_eq_some_iff.1 hk).1).trans hk⟩
theorem KpC.of_chg {S : Nat → Prop} {A B : World} (h : Chg S A B) : KpC S A B := ⟨h.size, fun k c t fr hk hn => (h.block k (Array.getElem?_eq_some_iff.1 hk).1 hn).trans hk⟩
theorem KpC.cell {S : Nat → Prop} {A B : World} (h : KpC S A B) {g i : Nat} {v : Value} (hn : ¬ S g) (hc : A.cell? ⟨g, i, none⟩ = some v) : B.cell? ⟨g, i, none⟩ = some v := by
  unfold World.cell? at hc ⊢
  split at hc
  · rename_i c t fr ho
    rw [h.2 g c t fr ho hn]
    exact hc
  · cases hc

theorem lies_kp {S : Nat → Prop} {w w' : World} (gc : KpC S w w') {X : Nat → Prop} (hn : ∀ x, X x → ¬ S x) : ∀ {f : Fs} {g off : Nat}, X g → Lies w X f g off → Lies w' X f g off
  | .nil, g, off, _, _ => trivial
  | .cons k b r, g, off, hg, ⟨⟨a, cap, h1, h2⟩, h3, h4⟩ => by
    refine ⟨⟨a, cap, gc.cell (hn g hg) h1, ?_⟩, gc.cell (hn g hg) h3, lies_kp gc hn hg h4⟩
    rcases h2 with h2 | ⟨g', off', e, hg', hl⟩
    · exact Or.inl h2
    · exact Or.inr ⟨g', off', e, hg', lies_kp gc hn hg' hl⟩
theorem Ts.kp {S : Nat → Prop} {w w' : World} {X : Nat → Prop} {v : Value} {f : Fs} (h : Ts w X v f) (g : KpC S w w') (hn : ∀ x, X x → ¬ S x) : Ts w' X v f := by
  obtain ⟨a, cap, e, h1⟩ := h
  refine ⟨a, cap, e, ?_⟩
  rcases h1 with h1 | ⟨g1, off, e1, h2, h3⟩
  · exact Or.inl h1
  · exact Or.inr ⟨g1, off, e1, h2, lies_kp g hn h2 h3⟩

/-- A type that is told: its depth, its arguments' slice, its base. -/
abbrev Nd := Nat × (Option Addr × Nat × Nat) × Int
def encT (x : Nd) : Array Value := #[.int .i64 (x.1 : Int), .agg #[.slice x.2.1.1 x.2.1.2.1 x.2.1.2.2, .int .i64 x.2.2]]
def pr (x : Nd) : Nat × Int := (x.1, x.2.2)
/-- depths and bases of a row's types, each ahead of its arguments -/
def nodes : Nat → Fs → List (Nat × Int)
  | _, .nil => []
  | d, .cons k b r => (d, b) :: nodes (d + 1) k ++ nodes d r
theorem nodes_len (f : Fs) : ∀ d, (nodes d f).length = f.size := by
  induction f with
  | nil => intro d; rfl
  | cons k b r ih1 ih2 => intro d; simp only [nodes, Fs.size, List.length_append, List.length_cons, ih1, ih2]; omega
theorem nodes_app (d : Nat) (f g : Fs) : nodes d (f.app g) = nodes d f ++ nodes d g := by
  induction f with
  | nil => rw [Fs.nil_app]; rfl
  | cons k b r _ ih => rw [Fs.app_cons]; simp only [nodes, ih, List.append_assoc]
/-- the first ones of a row -/
def Fs.first (f : Fs) (i : Nat) : Fs := Fs.ofL (f.toL.take i)
theorem Fs.first_zero (f : Fs) : f.first 0 = .nil := rfl
theorem Fs.first_all (f : Fs) : f.first f.len = f := by unfold Fs.first; rw [← Fs.toL_len, List.take_length]; exact Fs.ofL_toL f
theorem Fs.ofL_app (l m : List (Fs × Int)) : ofL (l ++ m) = (ofL l).app (ofL m) := by unfold Fs.app; rw [Fs.toL_ofL, Fs.toL_ofL]
theorem nodes_first (d : Nat) (f : Fs) (i : Nat) (h : i < f.toL.length) : nodes d (f.first (i + 1)) = nodes d (f.first i) ++ (d, (f.toL[i]).2) :: nodes (d + 1) (f.toL[i]).1 := by
  unfold Fs.first
  rw [List.take_succ_eq_append_getElem h, Fs.ofL_app, nodes_app]
  congr 1
  obtain ⟨k, b⟩ := f.toL[i]
  simp only [Fs.ofL, nodes, List.append_nil]
theorem nodes_first_pre (d : Nat) (f : Fs) (i : Nat) : nodes d (f.first i) <+: nodes d f := by
  have e : f = (f.first i).app (Fs.ofL (f.toL.drop i)) := by
    unfold Fs.first
    rw [← Fs.ofL_app, List.take_append_drop]
    exact (Fs.ofL_toL f).symm
  refine ⟨nodes d (Fs.ofL (f.toL.drop i)), ?_⟩
  rw [← nodes_app, ← e]

/-- what down has come to in its loop -/
def DInv (S : Nat → Prop) (J : List Nd → World → Prop) (pre : List Nd) (d : Nat) (b : Int) (f : Fs) (w wr : World) (i : Nat) : Prop :=
  ∃ ys : List Nd, ys.map pr = (d, b) :: nodes (d + 1) (f.first i) ∧ J (pre ++ ys) wr ∧ KpC S w wr

set_option maxRecDepth 100000 in
set_option maxHeartbeats 8000000 in
theorem down_step (l N B0 : Nat) (S X : Nat → Prop) (hXS : ∀ x, X x → ¬ S x) (hSB : ∀ x, B0 ≤ x → ¬ S x) (J Jx : List Nd → World → Prop)
    (hJ : ∀ pre W o, J pre W → J pre (W.alloc o))
    (hY : ∀ m pre x W, J pre W → pre.length < N → YieldAt Fence.wide m Tryd.prog l (encT x) W fun e W' =>
      (e = .returned (.bool true) ∧ J (pre ++ [x]) W' ∧ KpC S W W') ∨ (e = .returned (.bool false) ∧ Jx (pre ++ [x]) W'))
    (sz : Nat)
    (ih : ∀ (f : Fs), f.size < sz → ∀ (n d : Nat) (v : Value) (b : Int) (pre : List Nd) (W : World), d + f.size ≤ 1000000000 → B0 ≤ W.heap.size → Ts W X v f → J pre W → pre.length + 1 + f.size ≤ N →
      CallsIn Fence.wide n Tryd.prog 59 #[.agg #[v, .int .i64 b], .int .i64 (d : Int), .func (.yield l) #[] #[]] W fun e W' =>
        (e = .returned (.bool true) ∧ (∃ ys : List Nd, ys.map pr = (d, b) :: nodes (d + 1) f ∧ J (pre ++ ys) W') ∧ KpC S W W') ∨
        (e = .returned (.bool false) ∧ ∃ q : List Nd, q.map pr <+: ((d, b) :: nodes (d + 1) f) ∧ Jx (pre ++ q) W'))
    (f : Fs) (hf : f.size ≤ sz) (n d : Nat) (v : Value) (b : Int) (pre : List Nd) (W : World) (hd : d + f.size ≤ 1000000000) (hB : B0 ≤ W.heap.size) (hv : Ts W X v f) (h0 : J pre W) (hN : pre.length + 1 + f.size ≤ N) :
    CallsIn Fence.wide n Tryd.prog 59 #[.agg #[v, .int .i64 b], .int .i64 (d : Int), .func (.yield l) #[] #[]] W fun e W' =>
      (e = .returned (.bool true) ∧ (∃ ys : List Nd, ys.map pr = (d, b) :: nodes (d + 1) f ∧ J (pre ++ ys) W') ∧ KpC S W W') ∨
      (e = .returned (.bool false) ∧ ∃ q : List Nd, q.map pr <+: ((d, b) :: nodes (d + 1) f) ∧ Jx (pre ++ q) W') := by
  obtain ⟨a, cap, rfl, _⟩ := id hv
  have HV := hide hv
  have IH := hide ih
  have htl := Fs.toL_len f
  have hls := Fs.len_size f
  have HF := hide hf
  have bx := blk_new W (.cells #[.slice a f.len cap, .int .i64 b] 30)
  have y0 := blk_cell bx 0
  have y1 := blk_cell bx 1
  simp only [List.getElem?_toArray, List.getElem?_cons_zero, List.getElem?_cons_succ] at y0 y1
  have KA := KpC.alloc S W (.cells #[.slice a f.len cap, .int .i64 b] 30)
  obtain ⟨fn, tmps, assign, body, hy, hR⟩ := hY (n - 1) pre (d, (a, f.len, cap), b) (W.alloc (.cells #[.slice a f.len cap, .int .i64 b] 30)) (hJ _ _ _ h0) (by omega)
  dsimp only [encT] at hy
  have HK := hide KA
  have HSB := hide hSB
  have HXS := hide hXS
  have HJ := hide hJ
  have HB := hide hB
  clear hv ih hf bx h0 hY KA hJ hSB hXS
  refine callsIn_of_wp Tryd.func59 rfl trivial ?_ rfl
  simp only [Tryd.ntmps59, List.size_toArray, List.length_cons, List.length_nil, Nat.reduceAdd, Nat.reduceSub, Array.replicate_succ, Array.replicate_zero, List.push_toArray, List.append_toArray, List.nil_append, List.cons_append]
  gi_wp2
  refine ⟨fun h => (by cases h), ?_⟩
  refine hR.mono ?_
  clear hR hy
  rintro e W3 (⟨rfl, hJ3, hk3⟩ | ⟨rfl, hJx3⟩)
  · have nb : ¬ S W.heap.size := HSB.out _ HB.out
    have z0 := hk3.cell nb y0
    have D0 : Hid (DInv S J pre d b f W W3 0) := hide ⟨[(d, (a, f.len, cap), b)], rfl, hJ3, HK.out.trans hk3⟩
    clear y0 y1 hJ3 hk3 nb HK
    gi_wp2
    clear z0
    gi_loopw [17] (fun iv wr => ∃ i : Nat, i ≤ f.len ∧ iv = .int .i64 i ∧ Hid (DInv S J pre d b f W wr i)) (fun iv _ => f.len - (intOf iv).toNat)
    case atStart => exact ⟨0, Nat.zero_le _, rfl, D0⟩
    case round =>
      clear D0
      obtain ⟨i, hi, rfl, hD⟩ := hrel
      by_cases hlt : i < f.len
      · have hit : i < f.toL.length := by omega
        obtain ⟨ys, e1, hJ, hK⟩ := hD.out
        have HVr := HV.out.kp hK HXS.out
        obtain ⟨la, lc, hlv, hl⟩ := HVr
        rcases hl with hz | ⟨g, off, rfl, hg, hl⟩
        · subst hz; exact absurd hlt (Nat.not_lt_zero _)
        injection hlv with e2 e3 e4
        subst e2
        clear e3 e4
        obtain ⟨⟨vi, c0, ti⟩, c1⟩ := lies_get hl i hit
        obtain ⟨ka, kc, rfl, _⟩ := id ti
        have hks := Fs.kid_size f i hit
        have i1 : (0 : Int) ≤ (i : Int) := by omega
        have i2 : (i : Int) < (f.len : Int) := by omega
        have hnf := nodes_first (d + 1) f i hit
        have hpf := nodes_first_pre (d + 1) f (i + 1)
        have hln : (nodes (d + 1) (f.first (i + 1))).length ≤ f.size := by
          have h1 := hpf.length_le
          rw [nodes_len f (d + 1)] at h1
          exact h1
        rw [hnf] at hln hpf
        rw [List.length_append, List.length_cons, nodes_len] at hln
        have hly : ys.length = 1 + (nodes (d + 1) (f.first i)).length := by
          have h1 := congrArg List.length e1
          rw [List.length_map, List.length_cons] at h1
          omega
        have KA := KpC.alloc S wr (.cells #[.slice ka (f.toL[i]).1.len kc, .int .i64 (f.toL[i]).2] 30)
        have ci0 := (IH.out (f.toL[i]).1 (by have := HF.out; omega) (n - 1) (d + 1) (.slice ka (f.toL[i]).1.len kc) (f.toL[i]).2 (pre ++ ys) _ (by omega) (Nat.le_trans HB.out (Nat.le_trans hK.1 KA.1)) (ti.kp KA HXS.out) (HJ.out _ _ _ hJ) (by rw [List.length_append, hly]; rw [nodes_len] at *; omega))
        rw [show (((d + 1 : Nat)) : Int) = (d : Int) + 1 by omega] at ci0
        have ci := hide ci0
        have NF := hide hnf
        have PF := hide hpf
        have E1 := hide e1
        have KW := hide hK
        have KA2 := hide KA
        clear ci0 hD hK hJ e1 ti hks hl hg hnf hpf hly hln KA
        generalize hkk : (f.toL[i]).1 = kk at *
        generalize hkb : (f.toL[i]).2 = kb at *
        clear hkk hkb
        gi_wp2
        refine ⟨trivial, fun h => (by cases h), ?_⟩
        refine ci.out.mono ?_
        rintro e W5 (⟨rfl, ⟨zs, ez, hJ5⟩, hk5⟩ | ⟨rfl, q, hq, hx5⟩)
        · have D5 : Hid (DInv S J pre d b f W W5 (i + 1)) := hide ⟨ys ++ zs, by rw [List.map_append, E1.out, ez, NF.out, List.cons_append], by rw [← List.append_assoc]; exact hJ5, KW.out.trans (KA2.out.trans hk5)⟩
          clear hJ5 hk5 ci ez
          gi_wp2
          go_roundw
          case rel => exact ⟨i + 1, by omega, by go_num, D5⟩
          case measure => simp [intOf]; omega
        · have HQ : Hid ((ys ++ q).map pr <+: (d, b) :: nodes (d + 1) f ∧ Jx (pre ++ (ys ++ q)) W5) := hide (by
            refine ⟨?_, by rw [← List.append_assoc]; exact hx5⟩
            rw [List.map_append, E1.out, List.cons_append]
            obtain ⟨r, hr⟩ := hq
            obtain ⟨r2, hr2⟩ := PF.out
            exact ⟨r ++ r2, by rw [← hr2, ← hr, List.cons_append]; simp only [List.append_assoc]⟩)
          clear hq hx5 ci
          gi_wp2
          go_ret
          exact .inr ⟨rfl, ys ++ q, HQ.out.1, HQ.out.2⟩
      · have hif : i = f.len := by omega
        obtain ⟨ys, e1, hJ, hK⟩ := hD.out
        rw [hif, Fs.first_all] at e1
        have E1 := hide e1
        have KW := hide hK
        subst hif
        clear hD e1 hK
        gi_wp2
        go_ret
        exact .inl ⟨rfl, ⟨ys, E1.out, hJ⟩, KW.out⟩
  · gi_wp2
    go_ret
    exact .inr ⟨rfl, [(d, (a, f.len, cap), b)], ⟨nodes (d + 1) f, rfl⟩, hJx3⟩

theorem down_in (l N B0 : Nat) (S X : Nat → Prop) (hXS : ∀ x, X x → ¬ S x) (hSB : ∀ x, B0 ≤ x → ¬ S x) (J Jx : List Nd → World → Prop)
    (hJ : ∀ pre W o, J pre W → J pre (W.alloc o))
    (hY : ∀ m pre x W, J pre W → pre.length < N → YieldAt Fence.wide m Tryd.prog l (encT x) W fun e W' =>
      (e = .returned (.bool true) ∧ J (pre ++ [x]) W' ∧ KpC S W W') ∨ (e = .returned (.bool false) ∧ Jx (pre ++ [x]) W'))
    (sz : Nat) : ∀ (f : Fs), f.size ≤ sz → ∀ (n d : Nat) (v : Value) (b : Int) (pre : List Nd) (W : World), d + f.size ≤ 1000000000 → B0 ≤ W.heap.size → Ts W X v f → J pre W → pre.length + 1 + f.size ≤ N →
      CallsIn Fence.wide n Tryd.prog 59 #[.agg #[v, .int .i64 b], .int .i64 (d : Int), .func (.yield l) #[] #[]] W fun e W' =>
        (e = .returned (.bool true) ∧ (∃ ys : List Nd, ys.map pr = (d, b) :: nodes (d + 1) f ∧ J (pre ++ ys) W') ∧ KpC S W W') ∨
        (e = .returned (.bool false) ∧ ∃ q : List Nd, q.map pr <+: ((d, b) :: nodes (d + 1) f) ∧ Jx (pre ++ q) W') := by
  induction sz with
  | zero => exact fun f hf => down_step l N B0 S X hXS hSB J Jx hJ hY 0 (fun g hg => absurd hg (Nat.not_lt_zero _)) f hf
  | succ sz ih => exact fun f hf => down_step l N B0 S X hXS hSB J Jx hJ hY (sz + 1) (fun g hg => ih g (by omega)) f hf

set_option maxHeartbeats 1000000 in
/-- Each's function. -/
theorem each1_in (l Bt : Nat) (S X : Nat → Prop) (hXS : ∀ x, X x → ¬ S x) (f : Fs) (hf : f.size ≤ 1000000) (v : Value) (b : Int) (n : Nat) (J Jx : List Nd → World → Prop) (W : World)
    (hSB : ∀ x, W.heap.size ≤ x → ¬ S x) (hJ : ∀ pre W o, J pre W → J pre (W.alloc o))
    (hY : ∀ pre x W, J pre W → pre.length < f.size + 1 → YieldAt Fence.wide (n - 1) Tryd.prog l (encT x) W fun e W' =>
      (e = .returned (.bool true) ∧ J (pre ++ [x]) W' ∧ KpC S W W') ∨ (e = .returned (.bool false) ∧ Jx (pre ++ [x]) W'))
    (c0 : W.cell? ⟨Bt, 0, none⟩ = some v) (c1 : W.cell? ⟨Bt, 1, none⟩ = some (.int .i64 b)) (hv : Ts W X v f) (h0 : J [] W) :
    CallsIn Fence.wide n Tryd.prog 58 #[.func (.yield l) #[] #[], .pointer (some ⟨Bt, 0, none⟩)] W fun e W' => (∃ v, e = .returned v) ∧
      ((∃ ys : List Nd, ys.map pr = (1, b) :: nodes 2 f ∧ J ys W') ∨ (∃ q : List Nd, q.map pr <+: ((1, b) :: nodes 2 f) ∧ Jx q W')) := by
  obtain ⟨a, cap, rfl, _⟩ := id hv
  have dn := hide (down_in l (f.size + 1) W.heap.size S X hXS hSB J Jx hJ (fun m pre x W hj hl => yieldAt_any rfl m (hY pre x W hj hl)) f.size f (Nat.le_refl _) (n - 1) 1 (.slice a f.len cap) b [] W (by omega) (Nat.le_refl _) hv h0 (by simp; omega))
  rw [show (((1 : Nat)) : Int) = (1 : Int) from rfl] at dn
  clear hY hv
  refine callsIn_of_wp Tryd.func58 rfl trivial ?_ rfl
  simp only [Tryd.ntmps58, List.size_toArray, List.length_cons, List.length_nil, Nat.reduceAdd, Nat.reduceSub, Array.replicate_succ, Array.replicate_zero, List.push_toArray, List.append_toArray, List.nil_append, List.cons_append]
  gi_wp2
  refine ⟨trivial, fun h => (by cases h), ?_⟩
  refine dn.out.mono ?_
  rintro e W1 (⟨rfl, ⟨ys, e1, hJ1⟩, _⟩ | ⟨rfl, q, hq, hx⟩)
  · gi_wp2
    go_end0
    exact ⟨⟨_, rfl⟩, .inl ⟨ys, e1, hJ1⟩⟩
  · gi_wp2
    go_end0
    exact ⟨⟨_, rfl⟩, .inr ⟨q, hq, hx⟩⟩

theorem each_in (n : Nat) (v : Value) (b : Int) (w : World) :
    CallsIn Fence.wide n Tryd.prog 45 #[.agg #[v, .int .i64 b]] w fun e w' => e = .returned (.func (.func 58) #[] #[.pointer (some ⟨w.heap.size, 0, none⟩)]) ∧ w' = w.alloc (.cells #[v, .int .i64 b] 30) := by
  refine callsIn_of_wp Tryd.func45 rfl trivial ?_ rfl
  simp only [Tryd.ntmps45, List.size_toArray, List.length_cons, List.length_nil, Nat.reduceAdd, Nat.reduceSub, Array.replicate_succ, Array.replicate_zero, List.push_toArray, List.append_toArray, List.nil_append, List.cons_append]
  gi_wp2
  go_ret
  exact ⟨rfl, rfl⟩
end Go.Proofs.YtdoohocdaacnaaaDoor
