/- term.Right: may a term be? The terms within are told with their depths. -/
import Derived.Test.YtnpcapdlgcaniaaDoorFirm
import Derived.Test.YtnpcapdlgcaniaaDoorAt
namespace Go.Proofs.YtnpcapdlgcaniaaDoor
open Go.RowKit Go.Shelf
attribute [local go_sem] Oper.semAt_some
set_option linter.unusedVariables false
set_option linter.unusedSimpArgs false

/-- a term that is told: the binders around its head, its depth, its cells -/
abbrev Sd := Int × Nat × Value
def encS (x : Sd) : Array Value := #[.agg #[.int .i64 x.1, .int .i64 (x.2.1 : Int)], x.2.2]
def prS (x : Sd) : Nat := x.2.1
/-- the depths of a row's terms, each ahead of its arguments -/
def deps : Nat → Tms → List Nat
  | _, .nil => []
  | d, .cons b k i a r => d :: (deps (d + 1) a ++ deps d r)
theorem deps_len (f : Tms) : ∀ d, (deps d f).length = f.cnt := by
  induction f with
  | nil => intro d; rfl
  | cons b k i a r ih1 ih2 => intro d; simp only [deps, Tms.cnt, List.length_append, List.length_cons, ih1, ih2]; omega
theorem deps_app (d : Nat) (l m : List Tm) : deps d (Tms.ofL (l ++ m)) = deps d (Tms.ofL l) ++ deps d (Tms.ofL m) := by
  induction l with
  | nil => rfl
  | cons x l ih =>
    obtain ⟨b, k, i, a⟩ := x
    simp only [List.cons_append, Tms.ofL, deps, ih, List.append_assoc]
theorem deps_first (d : Nat) (f : Tms) (i : Nat) (h : i < f.toL.length) : deps d (f.first (i + 1)) = deps d (f.first i) ++ d :: deps (d + 1) (f.toL[i]).ag := by
  unfold Tms.first
  rw [List.take_succ_eq_append_getElem h, deps_app]
  congr 1
  obtain ⟨b, k, j, a⟩ := f.toL[i]
  simp only [Tms.ofL, deps, List.append_nil, Tm.ag]
theorem deps_first_pre (d : Nat) (f : Tms) (i : Nat) : deps d (f.first i) <+: deps d f := by
  refine ⟨deps d (Tms.ofL (f.toL.drop i)), ?_⟩
  unfold Tms.first
  rw [← deps_app, List.take_append_drop, Tms.ofL_toL]

theorem KpG.set_new {G : Nat → TypeId → Prop} {A B : World} (h : KpG G A B) {p : Addr} (hp : A.heap.size ≤ p.block) (v : Value) : KpG G A (B.setCell p v) :=
  ⟨by have := h.1; simp only [World.setCell, Array.size_modify]; exact this, fun k c t fr hk hg => by
    rw [Below.heap_setCell _ _ _ _ (by rintro rfl; have := (Array.getElem?_eq_some_iff.1 hk).1; omega)]; exact h.2 k c t fr hk hg⟩

/-- what down has come to in its loop -/
def DInvS (G : Nat → TypeId → Prop) (J : List Sd → World → Prop) (pre : List Sd) (d : Nat) (f : Tms) (W wr : World) (P : Nat) (ins : Int) (i : Nat) : Prop :=
  ∃ ys : List Sd, ys.map prS = d :: deps (d + 1) (f.first i) ∧ J (pre ++ ys) wr ∧ KpG G W wr ∧ wr.heap[P + 1]? = some (.cells #[.int .i64 ins, .int .i64 ((d : Int) + 1)] 127)

set_option maxRecDepth 100000 in
set_option maxHeartbeats 8000000 in
theorem tdown_step (l N B0 : Nat) (G : Nat → TypeId → Prop) (X : Nat → Prop) (hXG : ∀ x t, X x → G x t) (hX0 : ∀ x, X x → x < B0) (hBG : ∀ x t, B0 ≤ x → G x t) (J Jx : List Sd → World → Prop)
    (hJ : Firm B0 J) (hY : ∀ m, AsksF Fence.wide m Tryd.prog l encS (KpG G) N J Jx)
    (sz : Nat)
    (ih : ∀ (t : Tm), t.ag.size < sz → ∀ (n d ins : Nat) (v : Value) (pre : List Sd) (W : World), d + ins + t.bs.size + t.ag.size ≤ 1000000 → B0 ≤ W.heap.size → TV W X v t → J pre W → pre.length + 1 + t.ag.cnt ≤ N →
      CallsIn Fence.wide n Tryd.prog 86 #[v, .agg #[.int .i64 (ins : Int), .int .i64 (d : Int)], .func (.yield l) #[] #[]] W fun e W' =>
        (e = .returned (.bool true) ∧ (∃ ys : List Sd, ys.map prS = d :: deps (d + 1) t.ag ∧ J (pre ++ ys) W') ∧ KpG G W W') ∨
        (e = .returned (.bool false) ∧ ∃ q : List Sd, q.map prS <+: (d :: deps (d + 1) t.ag) ∧ Jx (pre ++ q) W'))
    (t : Tm) (hf : t.ag.size ≤ sz) (n d ins : Nat) (v : Value) (pre : List Sd) (W : World) (hd : d + ins + t.bs.size + t.ag.size ≤ 1000000) (hB : B0 ≤ W.heap.size) (hv : TV W X v t) (h0 : J pre W) (hN : pre.length + 1 + t.ag.cnt ≤ N) :
    CallsIn Fence.wide n Tryd.prog 86 #[v, .agg #[.int .i64 (ins : Int), .int .i64 (d : Int)], .func (.yield l) #[] #[]] W fun e W' =>
      (e = .returned (.bool true) ∧ (∃ ys : List Sd, ys.map prS = d :: deps (d + 1) t.ag ∧ J (pre ++ ys) W') ∧ KpG G W W') ∨
      (e = .returned (.bool false) ∧ ∃ q : List Sd, q.map prS <+: (d :: deps (d + 1) t.ag) ∧ Jx (pre ++ q) W') := by
  obtain ⟨b, kd, ix, f⟩ := t
  obtain ⟨ba, bc, fa, fc, rfl, tb, tr⟩ := id hv
  dsimp only [Tm.bs, Tm.kd, Tm.ix, Tm.ag] at *
  have IH := hide ih
  have htl := Tms.toL_len f
  have hbl := Fs.len_size b
  have hfl : f.len ≤ 1000000 := by have := Tms.len_size f; omega
  have HF := hide hf
  have HD := hide hd
  have HB := hide hB
  have HX := hide hX0
  have HBG := hide hBG
  have HXG := hide hXG
  have HJ := hide hJ
  have HN := hide hN
  have TR0 := hide tr
  have G2 := (al W (.cells #[.slice ba b.len bc, .int .i64 kd, .int .i64 ix, .slice fa f.len fc] 35)).alloc (.cells #[.int .i64 ((ins : Int) + b.len), .int .i64 (d : Int)] 127)
  have bx := blk_alloc (o' := .cells #[.int .i64 ((ins : Int) + b.len), .int .i64 (d : Int)] 127) (blk_new W (.cells #[.slice ba b.len bc, .int .i64 kd, .int .i64 ix, .slice fa f.len fc] 35))
  have by' := blk_new (W.alloc (.cells #[.slice ba b.len bc, .int .i64 kd, .int .i64 ix, .slice fa f.len fc] 35)) (.cells #[.int .i64 ((ins : Int) + b.len), .int .i64 (d : Int)] 127)
  rw [al_sz] at by'
  have J1 : J pre ((W.alloc (.cells #[.slice ba b.len bc, .int .i64 kd, .int .i64 ix, .slice fa f.len fc] 35)).alloc (.cells #[.int .i64 ((ins : Int) + b.len), .int .i64 (d : Int)] 127)) := hJ _ _ _ h0 (G2.mono (fun _ _ h => h.elim))
  obtain ⟨fn, tmps, assign, body, hy, hR⟩ := hY (n - 1) pre ((ins : Int) + b.len, d, .agg #[.slice ba b.len bc, .int .i64 kd, .int .i64 ix, .slice fa f.len fc]) _ J1 (by omega)
  dsimp only [encS] at hy
  have GG := hide G2
  have BX := hide bx
  have BY := hide by'
  have hwr : wrap64 ((ins : Int) + (b.len : Int)) = (ins : Int) + (b.len : Int) := by unfold wrap64; omega
  clear ih hf hd hB hX0 hBG hXG hJ hN hv h0 G2 tb tr bx by' J1 hY
  refine callsIn_of_wp Tryd.func86 rfl trivial ?_ rfl
  simp only [Tryd.ntmps86, List.size_toArray, List.length_cons, List.length_nil, Nat.reduceAdd, Nat.reduceSub, Array.replicate_succ, Array.replicate_zero, List.push_toArray, List.append_toArray, List.nil_append, List.cons_append]
  gi_wp2
  refine ⟨fun h => (by cases h), ?_⟩
  refine hR.mono ?_
  clear hR hy hwr
  generalize (W.alloc (.cells #[.slice ba b.len bc, .int .i64 kd, .int .i64 ix, .slice fa f.len fc] 35)).alloc (.cells #[.int .i64 ((ins : Int) + b.len), .int .i64 (d : Int)] 127) = W1 at *
  rintro e W3 (⟨rfl, hJ3, hk3⟩ | ⟨rfl, hJx3⟩)
  · have bx := hk3.blk BX.out (HBG.out _ _ HB.out)
    have by' := hk3.blk BY.out (HBG.out _ _ (Nat.le_succ_of_le HB.out))
    have KP : KpG G W W3 := (KpG.of_same GG.out).trans hk3
    obtain ⟨P, hP⟩ : ∃ P, W.heap.size = P := ⟨_, rfl⟩
    rw [hP] at bx by' ⊢
    have HP := hide hP
    have x3 := blk_cell bx 3
    have y1 := blk_cell by' 1
    have fy1 := blk_free by' 1
    simp only [List.getElem?_toArray, List.getElem?_cons_zero, List.getElem?_cons_succ] at x3 y1
    have bs := blk_set by' 1 (.int .i64 ((d : Int) + 1))
    simp only [List.setIfInBounds_toArray, List.set_cons_zero, List.set_cons_succ] at bs
    have D0 : Hid (DInvS G J pre d f W (W3.setCell ⟨P + 1, 1, none⟩ (.int .i64 ((d : Int) + 1))) P ((ins : Int) + b.len) 0) := hide
      ⟨[((ins : Int) + b.len, d, .agg #[.slice ba b.len bc, .int .i64 kd, .int .i64 ix, .slice fa f.len fc])], rfl,
       HJ.out _ _ _ hJ3 ((Chg.refl _ _).setCell (Or.inl (by have := HB.out; show B0 ≤ P + 1; omega)) _), KP.set_new (by show W.heap.size ≤ P + 1; omega) _, bs⟩
    have nP : ¬ P = P + 1 := by omega
    have hd1 : d ≤ 1000000 := by have := HD.out; omega
    have nP' : ¬ P + 1 = P := by omega
    clear hJ3 hk3 KP bx by' bs BX BY GG hP
    gi_wp2
    generalize W3.setCell ⟨P + 1, 1, none⟩ (.int .i64 ((d : Int) + 1)) = W4 at *
    clear x3 y1 fy1
    gi_loopw [28] (fun iv wr => ∃ i : Nat, i ≤ f.len ∧ iv = .int .i64 i ∧ Hid (DInvS G J pre d f W wr P ((ins : Int) + b.len) i)) (fun iv _ => f.len - (intOf iv).toNat)
    case atStart => exact ⟨0, Nat.zero_le _, rfl, D0⟩
    case round =>
      clear D0
      obtain ⟨i, hi, rfl, hDD⟩ := hrel
      obtain ⟨ys, e1, hJ, hK, hb⟩ := hDD.out
      have z0 := blk_cell hb 0
      have z1 := blk_cell hb 1
      simp only [List.getElem?_toArray, List.getElem?_cons_zero, List.getElem?_cons_succ] at z0 z1
      by_cases hlt : i < f.len
      · have hit : i < f.toL.length := by omega
        obtain ⟨la, lc, hlv, hl⟩ := TR0.out.kp hK HXG.out
        rcases hl with hz | ⟨g, off, rfl, hg, hl⟩
        · subst hz; exact absurd hlt (Nat.not_lt_zero _)
        injection hlv with e2 e3 e4
        subst e2
        clear e3 e4
        obtain ⟨⟨vkb, c0, tb⟩, c1, c2, vi, c3, ti⟩ := tlies_get hl i hit
        obtain ⟨kba, kbc, rfl, _⟩ := id tb
        obtain ⟨ka, kc, rfl, _⟩ := id ti
        have i1 : (0 : Int) ≤ (i : Int) := by omega
        have i2 : (i : Int) < (f.len : Int) := by omega
        dsimp only [Tm.bs, Tm.kd, Tm.ix, Tm.ag] at c0 c1 c2 c3 tb ti
        have hks := Tms.kid_sum f i hit
        have hkc := Tms.kid_cnt2 f i hit
        dsimp only [Tm.bs, Tm.ag] at hks hkc
        have hnf := deps_first (d + 1) f i hit
        have hpf := deps_first_pre (d + 1) f (i + 1)
        have hln : (deps (d + 1) (f.first (i + 1))).length ≤ f.cnt := by
          have h1 := hpf.length_le
          rw [deps_len f (d + 1)] at h1
          exact h1
        rw [hnf] at hln hpf
        rw [List.length_append, List.length_cons, deps_len] at hln
        have hly : ys.length = 1 + (deps (d + 1) (f.first i)).length := by
          have h1 := congrArg List.length e1
          rw [List.length_map, List.length_cons] at h1
          omega
        rw [deps_len] at hly
        have KA : Chg (fun _ => False) wr (wr.alloc (.cells #[.slice kba (f.toL[i]).1.len kbc, .int .i64 (f.toL[i]).2.1, .int .i64 (f.toL[i]).2.2.1, .slice ka (f.toL[i]).2.2.2.len kc] 35)) := al _ _
        have z0' := KA.cell (fun h => h) z0
        have z1' := KA.cell (fun h => h) z1
        have ci0 := IH.out (f.toL[i]) (by have := HF.out; dsimp only [Tm.ag] at *; omega) (n - 1) (d + 1) (ins + b.len) (.agg #[.slice kba (f.toL[i]).1.len kbc, .int .i64 (f.toL[i]).2.1, .int .i64 (f.toL[i]).2.2.1, .slice ka (f.toL[i]).2.2.2.len kc]) (pre ++ ys) _ (by have := HD.out; omega) (Nat.le_trans HB.out (Nat.le_trans hK.1 KA.size))
          ⟨_, _, _, _, rfl, tb.chg KA (fun _ _ h => h), ti.chg KA (fun _ _ h => h)⟩ (HJ.out _ _ _ hJ (KA.mono (fun _ _ h => h.elim))) (by have := HN.out; rw [List.length_append, hly]; dsimp only [Tm.ag] at *; rw [deps_len (f.toL[i]).2.2.2] at hln; omega)
        rw [show (((d + 1 : Nat)) : Int) = (d : Int) + 1 by omega, show (((ins + b.len : Nat)) : Int) = (ins : Int) + b.len by omega] at ci0
        have ci := hide ci0
        have NF := hide hnf
        have PF := hide hpf
        have E1 := hide e1
        have KW := hide (hK.trans (KpG.of_same KA))
        have HBB := hide (KA.blk (fun h => h) hb)
        have GP := hide (HBG.out (P + 1) 127 (by have := HB.out; have := HP.out; omega))
        clear ci0 hDD hK hJ e1 tb ti hks hl hg hnf hpf hly hln KA hb hkc z0 z1
        generalize hsub : f.toL[i] = s at *
        obtain ⟨s0, s1, s2, s3⟩ := s
        dsimp only [Tm.ag] at c0 c1 c2 c3 ci NF PF KW HBB z0' z1'
        clear hsub
        gi_wp2
        refine ⟨trivial, fun h => (by cases h), ?_⟩
        refine ci.out.mono ?_
        clear z0' z1'
        rintro e W5 (⟨rfl, ⟨zs, ez, hJ5⟩, hk5⟩ | ⟨rfl, q, hq, hx5⟩)
        · have D5 : Hid (DInvS G J pre d f W W5 P ((ins : Int) + b.len) (i + 1)) := hide ⟨ys ++ zs, by rw [List.map_append, E1.out, ez, NF.out, List.cons_append], by rw [← List.append_assoc]; exact hJ5, KW.out.trans hk5, hk5.blk HBB.out GP.out⟩
          clear hJ5 hk5 ci ez
          gi_wp2
          go_roundw
          case rel => exact ⟨i + 1, by omega, by go_num, D5⟩
          case measure => simp [intOf]; omega
        · have HQ : Hid ((ys ++ q).map prS <+: d :: deps (d + 1) f ∧ Jx (pre ++ (ys ++ q)) W5) := hide (by
            refine ⟨?_, by rw [← List.append_assoc]; exact hx5⟩
            rw [List.map_append, E1.out, List.cons_append]
            obtain ⟨r, hr⟩ := hq
            obtain ⟨r2, hr2⟩ := PF.out
            exact ⟨r ++ r2, by rw [← hr2, ← hr, List.cons_append]; simp only [List.append_assoc]⟩)
          clear hq hx5 ci
          gi_wp2
          go_ret
          exact .inr ⟨rfl, ys ++ q, HQ.out.1, HQ.out.2⟩
      · have hif : i = f.len := by omega
        rw [hif, Tms.first_all] at e1
        have E1 := hide e1
        have KW := hide hK
        have HJ5 := hide hJ
        have i2 : ¬ (i : Int) < (f.len : Int) := by omega
        subst hif
        clear hDD e1 hK z0 z1 hb hJ
        gi_wp2
        go_ret
        exact .inl ⟨rfl, ⟨ys, E1.out, HJ5.out⟩, KW.out⟩
  · gi_wp2
    go_ret
    exact .inr ⟨rfl, [_], ⟨deps (d + 1) f, rfl⟩, hJx3⟩
theorem tdown_in (l N B0 : Nat) (G : Nat → TypeId → Prop) (X : Nat → Prop) (hXG : ∀ x t, X x → G x t) (hX0 : ∀ x, X x → x < B0) (hBG : ∀ x t, B0 ≤ x → G x t) (J Jx : List Sd → World → Prop)
    (hJ : Firm B0 J) (hY : ∀ m, AsksF Fence.wide m Tryd.prog l encS (KpG G) N J Jx)
    (sz : Nat) : ∀ (t : Tm), t.ag.size ≤ sz → ∀ (n d ins : Nat) (v : Value) (pre : List Sd) (W : World), d + ins + t.bs.size + t.ag.size ≤ 1000000 → B0 ≤ W.heap.size → TV W X v t → J pre W → pre.length + 1 + t.ag.cnt ≤ N →
      CallsIn Fence.wide n Tryd.prog 86 #[v, .agg #[.int .i64 (ins : Int), .int .i64 (d : Int)], .func (.yield l) #[] #[]] W fun e W' =>
        (e = .returned (.bool true) ∧ (∃ ys : List Sd, ys.map prS = d :: deps (d + 1) t.ag ∧ J (pre ++ ys) W') ∧ KpG G W W') ∨
        (e = .returned (.bool false) ∧ ∃ q : List Sd, q.map prS <+: (d :: deps (d + 1) t.ag) ∧ Jx (pre ++ q) W') := by
  induction sz with
  | zero => exact fun t ht => tdown_step l N B0 G X hXG hX0 hBG J Jx hJ hY 0 (fun t h => absurd h (Nat.not_lt_zero _)) t ht
  | succ sz ih => exact fun t ht => tdown_step l N B0 G X hXG hX0 hBG J Jx hJ hY (sz + 1) (fun t h => ih t (by omega)) t ht

set_option maxRecDepth 100000 in
set_option maxHeartbeats 1000000 in
/-- each tells the depths -/
theorem teach_tells (n : Nat) (Bt : Nat) (G : Nat → TypeId → Prop) (X : Nat → Prop) (w : World) (hXG : ∀ x t, X x → G x t) (hX : ∀ x, X x → x < w.heap.size) (hBG : ∀ x t, w.heap.size ≤ x → G x t)
    (t : Tm) (hs : t.bs.size + t.ag.size ≤ 900000) (ba : Option Addr) (bc : Nat) (fa : Option Addr) (fc : Nat)
    (hT : w.heap[Bt]? = some (.cells #[.slice ba t.bs.len bc, .int .i64 t.kd, .int .i64 t.ix, .slice fa t.ag.len fc] 35))
    (hv : TV w X (.agg #[.slice ba t.bs.len bc, .int .i64 t.kd, .int .i64 t.ix, .slice fa t.ag.len fc]) t) :
    TellsF Fence.wide n Tryd.prog 85 #[.pointer (some ⟨Bt, 0, none⟩)] encS (KpG G) (fun ys => ys.map prS = 1 :: deps 2 t.ag) (fun q => q.map prS <+: (1 :: deps 2 t.ag)) (1 + t.ag.cnt) w := by
  intro l J Jx W hW hJ hY h0
  obtain ⟨b, kd, ix, f⟩ := t
  dsimp only [Tm.bs, Tm.kd, Tm.ix, Tm.ag] at *
  have dn := hide (tdown_in l (1 + f.cnt) W.heap.size G X hXG (fun x hx => Nat.lt_of_lt_of_le (hX x hx) hW.size) (fun x t hx => hBG x t (Nat.le_trans hW.size hx)) J Jx hJ
    (fun m pre x W hj hl => yieldAt_any rfl m (hY pre x W hj hl)) f.size (b, kd, ix, f) (Nat.le_refl _) (n - 1) 1 0 (.agg #[.slice ba b.len bc, .int .i64 kd, .int .i64 ix, .slice fa f.len fc]) [] W (by dsimp only [Tm.bs, Tm.ag]; omega) (Nat.le_refl _) (hv.chg hW (fun _ _ h => h)) h0 (by simp))
  rw [show (((1 : Nat)) : Int) = (1 : Int) from rfl, show (((0 : Nat)) : Int) = (0 : Int) from rfl] at dn
  have hB := hW.blk (fun h => h) hT
  have b0 := blk_cell hB 0
  have b1 := blk_cell hB 1
  have b2 := blk_cell hB 2
  have b3 := blk_cell hB 3
  simp only [List.getElem?_toArray, List.getElem?_cons_zero, List.getElem?_cons_succ] at b0 b1 b2 b3
  clear hY hv hT hB
  refine callsIn_of_wp Tryd.func85 rfl trivial ?_ rfl
  simp only [Tryd.ntmps85, List.size_toArray, List.length_cons, List.length_nil, Nat.reduceAdd, Nat.reduceSub, Array.replicate_succ, Array.replicate_zero, List.push_toArray, List.append_toArray, List.nil_append, List.cons_append]
  gi_wp2
  refine ⟨trivial, fun h => (by cases h), ?_⟩
  refine dn.out.mono ?_
  rintro e W1 (⟨rfl, ⟨ys, e1, hJ1⟩, _⟩ | ⟨rfl, q, hq, hx⟩)
  · gi_wp2
    go_end0
    exact ⟨⟨_, rfl⟩, .inl ⟨ys, e1, hJ1⟩⟩
  · gi_wp2
    go_end0
    exact ⟨⟨_, rfl⟩, .inr ⟨q, hq, hx⟩⟩

theorem teach_in (n : Nat) (ba : Option Addr) (bl bc : Nat) (kd ix : Int) (fa : Option Addr) (fl fc : Nat) (w : World) :
    CallsIn Fence.wide n Tryd.prog 77 #[.agg #[.slice ba bl bc, .int .i64 kd, .int .i64 ix, .slice fa fl fc]] w fun e w' => e = .returned (.func (.func 85) #[] #[.pointer (some ⟨w.heap.size, 0, none⟩)]) ∧ w' = w.alloc (.cells #[.slice ba bl bc, .int .i64 kd, .int .i64 ix, .slice fa fl fc] 35) := by
  refine callsIn_of_wp Tryd.func77 rfl trivial ?_ rfl
  simp only [Tryd.ntmps77, List.size_toArray, List.length_cons, List.length_nil, Nat.reduceAdd, Nat.reduceSub, Array.replicate_succ, Array.replicate_zero, List.push_toArray, List.append_toArray, List.nil_append, List.cons_append]
  gi_wp2
  go_ret
  exact ⟨rfl, rfl⟩

/-- may these terms be? -/
def goodT (l : List Nat) : Bool := decide (l.length ≤ 5000) && l.all (fun d => decide (d ≤ 60))
theorem goodT_pre {l m : List Nat} (h : l <+: m) (hl : goodT l = false) : goodT m = false := by
  obtain ⟨r, rfl⟩ := h
  unfold goodT at *
  rw [List.all_append, List.length_append]
  cases h1 : l.all (fun d => decide (d ≤ 60))
  · rw [Bool.false_and, Bool.and_false]
  · rw [h1, Bool.and_true] at hl
    have : ¬ l.length ≤ 5000 := by simpa using hl
    rw [decide_eq_false (by omega), Bool.false_and]
theorem goodT_bad {l : List Nat} {p : Nat} (h : ¬ l.length + 1 ≤ 5000 ∨ ¬ p ≤ 60) : goodT (l ++ [p]) = false := by
  unfold goodT
  rcases h with h | h
  · rw [List.length_append, List.length_singleton, decide_eq_false h, Bool.false_and]
  · rw [List.all_append, List.all_cons, decide_eq_false h, Bool.false_and, Bool.and_false, Bool.and_false]
theorem goodT_good {l : List Nat} {p : Nat} (hl : goodT l = true) (h1 : l.length + 1 ≤ 5000) (h2 : p ≤ 60) : goodT (l ++ [p]) = true := by
  unfold goodT at *
  rw [Bool.and_eq_true] at hl
  rw [List.length_append, List.length_singleton, decide_eq_true h1, Bool.true_and, List.all_append, hl.2, List.all_cons, decide_eq_true h2]
  rfl
theorem blk_kept {A B : World} {row : Option Nat} {b : Nat} {c : Array Value} {t : TypeId} (h : A.heap[b]? = some (.cells c t)) (hg : A.grownBy B row)
    (hr : ∀ r, row = some r → ∃ o, A.heap[r]? = some o ∧ o.isCells = false) : B.heap[b]? = some (.cells c t) := by
  rw [hg.block b (blk_lt h) (fun e => by
    obtain ⟨o, ho, hc⟩ := hr b e.symm
    rw [h] at ho
    cases ho
    cases hc)]
  exact h
/-- what lies in Right's own blocks between two rounds -/
def RAt (B : Nat) (n : Int) (r : Bool) (W : World) : Prop := W.heap[B + 1]? = some (.cells #[.bool r] 4) ∧ W.heap[B + 1 + 1]? = some (.cells #[.int .i64 n] 3)
theorem RAt.alloc {B : Nat} {n : Int} {r : Bool} {W : World} (h : RAt B n r W) (o : Obj) : RAt B n r (W.alloc o) := ⟨blk_alloc h.1, blk_alloc h.2⟩
theorem RAt.kept {B : Nat} {n : Int} {r : Bool} {A C : World} {row : Option Nat} (h : RAt B n r A) (hg : A.grownBy C row)
    (hr : ∀ r, row = some r → ∃ o, A.heap[r]? = some o ∧ o.isCells = false) : RAt B n r C := ⟨blk_kept h.1 hg hr, blk_kept h.2 hg hr⟩
theorem RAt.chg {B : Nat} {n : Int} {r : Bool} {A C : World} (h : RAt B n r A) {K : Nat} (hg : Chg (fun k => K ≤ k) A C) (hK : B + 2 < K) : RAt B n r C := ⟨hg.blk (by omega) h.1, hg.blk (by omega) h.2⟩

set_option maxRecDepth 100000 in
set_option maxHeartbeats 4000000 in
theorem rightT_in (t : Tm) (ht : t.bs.size + t.ag.size ≤ 900000) (v : Value) (X : Nat → Prop) (w : World) (hX : ∀ x, X x → x < w.heap.size) (hv : TV w X v t) :
    CallsIn Fence.wide 4 Tryd.prog 60 #[v] w fun e W' => e = .returned (.bool (goodT (1 :: deps 2 t.ag))) ∧ Below w.heap.size w W' := by
  obtain ⟨b, kd, ix, f⟩ := t
  obtain ⟨ba, bc, fa, fc, rfl, tb, tr⟩ := id hv
  dsimp only [Tm.bs, Tm.kd, Tm.ix, Tm.ag] at *
  refine callsIn_of_wp_marks Tryd.func60 rfl trivial ?_ rfl
  simp only [Tryd.ntmps60, List.size_toArray, List.length_cons, List.length_nil, Nat.reduceAdd, Nat.reduceSub, Array.replicate_succ, Array.replicate_zero, List.push_toArray, List.append_toArray, List.nil_append, List.cons_append]
  gi_wp2
  refine ⟨trivial, ?_⟩
  refine (teach_in _ _ _ _ _ _ _ _ _ _).mono ?_
  rintro e w' ⟨rfl, rfl⟩
  gi_wp2
  obtain ⟨W0, hW0⟩ : ∃ W0, ((((w.alloc (.cells #[.slice ba b.len bc, .int .i64 kd, .int .i64 ix, .slice fa f.len fc] 35)).alloc (.cells #[.bool false] 4)).alloc (.cells #[.int .i64 0] 3)).alloc (.cells #[.slice ba b.len bc, .int .i64 kd, .int .i64 ix, .slice fa f.len fc] 35)) = W0 := ⟨_, rfl⟩
  rw [hW0]
  have hsz : W0.heap.size = w.heap.size + 4 := by rw [← hW0]; simp
  have hC0 : Chg (fun _ => False) w W0 := by
    rw [← hW0]
    exact (((al w _).alloc _).alloc _).alloc _
  have hB0 : Below w.heap.size w W0 := hC0.below (Nat.le_refl _) (fun _ h => h.elim)
  have hAt : RAt w.heap.size 0 false W0 := by
    rw [← hW0]
    have e2 := blk_new (w.alloc (.cells #[.slice ba b.len bc, .int .i64 kd, .int .i64 ix, .slice fa f.len fc] 35)) (.cells #[.bool false] 4)
    have e3 := blk_new ((w.alloc (.cells #[.slice ba b.len bc, .int .i64 kd, .int .i64 ix, .slice fa f.len fc] 35)).alloc (.cells #[.bool false] 4)) (.cells #[.int .i64 0] 3)
    simp only [World.size_alloc] at e2 e3
    exact ⟨blk_alloc (blk_alloc e2), blk_alloc e3⟩
  have hS : W0.heap[w.heap.size + 1 + 1 + 1]? = some (.cells #[.slice ba b.len bc, .int .i64 kd, .int .i64 ix, .slice fa f.len fc] 35) := by
    rw [← hW0]
    have e5 := blk_new (((w.alloc (.cells #[.slice ba b.len bc, .int .i64 kd, .int .i64 ix, .slice fa f.len fc] 35)).alloc (.cells #[.bool false] 4)).alloc (.cells #[.int .i64 0] 3)) (.cells #[.slice ba b.len bc, .int .i64 kd, .int .i64 ix, .slice fa f.len fc] 35)
    simp only [World.size_alloc] at e5
    exact e5
  clear hW0
  have hv0 := hv.chg hC0 (fun _ _ h => h)
  clear hv hC0 tb tr
  refine wpIn_range_firm rfl (by omega) (gf := 85) (lb := #[.pointer (some ⟨w.heap.size + 1 + 1 + 1, 0, none⟩)]) rfl trivial (enters_of Tryd.func85 (by kernel_rfl) rfl)
    (teach_tells 3 (w.heap.size + 1 + 1 + 1) (fun k t => ¬ k = w.heap.size + 1 ∧ ¬ k = w.heap.size + 2) X W0 (fun x c hx => by have := hX x hx; omega) (fun x hx => by have := hX x hx; omega)
      (fun x c hx => by omega) (b, kd, ix, f) ht ba bc fa fc hS hv0)
    (fun h k => h.trans k) (fun W l o o' _ ho hc => KpG.put _ W l o o' ho hc) (fun _ => rfl)
    (fun pre W => (goodT (pre.map prS) = true ∧ RAt w.heap.size pre.length false W) ∧ Below w.heap.size w W)
    (fun c pre W => (c = .ret ∧ goodT (pre.map prS) = false ∧ RAt w.heap.size pre.length false W) ∧ Below w.heap.size w W)
    (OwnFrom.and (Own.from (fun s A B row hs hg hr => ⟨hs.1, hs.2.kept hg hr⟩) _) (ownFrom_below (Nat.le_refl _) (by omega)))
    (fun s A C hs hg => ⟨⟨hs.1.1, hs.1.2.chg hg (by omega)⟩, hs.2.trans (hg.below (B := w.heap.size) (by have := hs.2.size; omega) (fun k hk => by omega))⟩)
    (fun c => OwnFrom.and (Own.from (fun s A B row hs hg hr => ⟨hs.1, hs.2.1, hs.2.2.kept hg hr⟩) _) (ownFrom_below (Nat.le_refl _) (by omega)))
    ⟨⟨rfl, hAt⟩, hB0⟩
    ?round ?done ?stop
  case round =>
    rintro l pre x W hl hlW ⟨⟨hg, hat⟩, hB⟩ hlen
    obtain ⟨x0, x1, x2⟩ := x
    dsimp only [encS]
    have KA : KpG (fun k t => ¬ k = w.heap.size + 1 ∧ ¬ k = w.heap.size + 2) W (W.alloc (.cells #[.int .i64 x0, .int .i64 (x1 : Int)] 127)) := KpG.of_same (al _ _)
    have bxn := blk_new W (.cells #[.int .i64 x0, .int .i64 (x1 : Int)] 127)
    have hwl : w.heap.size + 1 + 1 < W.heap.size := blk_lt hat.2
    obtain ⟨Bx, hBx⟩ : ∃ Bx, W.heap.size = Bx := ⟨_, rfl⟩
    rw [hBx] at bxn hwl
    have HBX := hide hBx
    have HAT := hide (hat.alloc (.cells #[.int .i64 x0, .int .i64 (x1 : Int)] 127))
    have HBB := hide (hB.alloc hB.size (.cells #[.int .i64 x0, .int .i64 (x1 : Int)] 127))
    have HG := hide hg
    have hlm : (pre.map prS).length = pre.length := List.length_map _
    have HLM := hide hlm
    have hpl : pre.length ≤ 1000000 := by have := Tms.cnt_size f; dsimp only [Tm.ag] at hlen; omega
    have HSZ := hide hsz
    have HL := hide hlW
    have HL0 := hide hl
    clear hat hB hg hlm hlW hBx hlen hl hsz
    gi_wp2
    refine ⟨(KeepsOthers.alloc _ _).from _, KA, fun o o' ho hoc => ?_⟩
    generalize W.alloc (.cells #[.int .i64 x0, .int .i64 (x1 : Int)] 127) = W1 at *
    have hgr := grownBy_putObj' W1 l o'
    have hkk : ∀ r, some l = some r → ∃ o, W1.heap[r]? = some o ∧ o.isCells = false := fun r e => by cases e; exact ⟨_, ho, hoc⟩
    have HAT2 := hide (HAT.out.kept hgr hkk)
    have BX2 := blk_kept bxn hgr hkk
    have HBB2 := hide (HBB.out.grown hgr HBB.out.size (fun k e => by cases e; have := HL0.out; have := HSZ.out; omega))
    clear hgr hkk ho hoc HAT HBB bxn KA
    generalize W1.putObj l o' = W2 at *
    try rw [HBX.out]
    have hat := HAT2.out
    have c2 := blk_cell hat.1 0
    have c3 := blk_cell hat.2 0
    have f2 := blk_free hat.1 0
    have f3 := blk_free hat.2 0
    have d1 := blk_cell BX2 1
    simp only [List.getElem?_toArray, List.getElem?_cons_zero, List.getElem?_cons_succ] at c2 c3 d1
    have n3 : ¬ w.heap.size + 1 + 1 = Bx := by omega
    have n6 : ¬ Bx = w.heap.size + 1 + 1 := by omega
    have n7 : ¬ w.heap.size + 1 = w.heap.size + 1 + 1 := by omega
    have n8 : ¬ w.heap.size + 1 + 1 = w.heap.size + 1 := by omega
    have e3 : (((pre ++ [((x0, x1, x2) : Sd)]).length : Nat) : Int) = (pre.length : Int) + 1 := by simp
    have hx0 : ((x1 : Int)) ≤ 1000000000 ∨ 1000000000 < (x1 : Int) := by omega
    have R1 : RAt w.heap.size ((pre.length : Int) + 1) false (W2.setCell ⟨w.heap.size + 1 + 1, 0, none⟩ (.int .i64 ((pre.length : Int) + 1))) := ⟨blk_other hat.1 n7 0 _, blk_set hat.2 0 _⟩
    have B1 := HBB2.out.setCell (p := ⟨w.heap.size + 1 + 1, 0, none⟩) (by show w.heap.size ≤ w.heap.size + 1 + 1; omega) (.int .i64 ((pre.length : Int) + 1))
    have R2 : RAt w.heap.size ((pre.length : Int) + 1) false ((W2.setCell ⟨w.heap.size + 1 + 1, 0, none⟩ (.int .i64 ((pre.length : Int) + 1))).setCell ⟨w.heap.size + 1, 0, none⟩ (.bool false)) := ⟨blk_set R1.1 0 _, blk_other R1.2 n8 0 _⟩
    have B2 := B1.setCell (p := ⟨w.heap.size + 1, 0, none⟩) (by show w.heap.size ≤ w.heap.size + 1; omega) (.bool false)
    have E3 := hide e3
    have HF := hide (And.intro R2 B2)
    have KP : KpG (fun k t => ¬ k = w.heap.size + 1 ∧ ¬ k = w.heap.size + 2) W2 (W2.setCell ⟨w.heap.size + 1 + 1, 0, none⟩ (.int .i64 ((pre.length : Int) + 1))) := KpG.of_chg (Chg.set _ _ _ _) (fun k c t fr hk _ hg => hg.2 hk)
    have HGG := hide (And.intro (And.intro R1 B1) KP)
    clear R1 R2 B1 B2 KP e3 hat BX2
    by_cases h2 : 5000 < (pre.length : Int) + 1
    · have WY : Hid (¬ (pre.map prS).length + 1 ≤ 5000) := hide (by rw [HLM.out]; omega)
      gi_wp2
      exact ⟨((KeepsOthers.setCell _ _ _).trans (KeepsOthers.setCell _ _ _)).from _, ⟨rfl, by rw [List.map_append]; exact goodT_bad (Or.inl WY.out), by rw [E3.out]; exact HF.out.1⟩, HF.out.2⟩
    by_cases h1 : 60 < (x1 : Int)
    · have WY : Hid (¬ x1 ≤ 60) := hide (by omega)
      gi_wp2
      exact ⟨((KeepsOthers.setCell _ _ _).trans (KeepsOthers.setCell _ _ _)).from _, ⟨rfl, by rw [List.map_append]; exact goodT_bad (Or.inr WY.out), by rw [E3.out]; exact HF.out.1⟩, HF.out.2⟩
    have WY : Hid (x1 ≤ 60) := hide (by omega)
    have WL : Hid ((pre.map prS).length + 1 ≤ 5000) := hide (by rw [HLM.out]; omega)
    gi_wp2
    exact ⟨(KeepsOthers.setCell _ _ _).from _, HGG.out.2, ⟨by rw [List.map_append]; exact goodT_good HG.out WL.out WY.out, by rw [E3.out]; exact HGG.out.1.1⟩, HGG.out.1.2⟩
  case done =>
    rintro D ys W hD hys ⟨⟨hg, hat⟩, hB⟩ hK
    have c2 := blk_cell hat.1 0
    have f2 := blk_free hat.1 0
    simp only [List.getElem?_toArray, List.getElem?_cons_zero, List.getElem?_cons_succ] at c2
    have HG := hide hg
    have T2 := hide (blk_set hat.1 0 (.bool true))
    have HB2 := hide (hB.setCell (p := ⟨w.heap.size + 1, 0, none⟩) (by show w.heap.size ≤ w.heap.size + 1; omega) (.bool true))
    have hD' : ¬ D = w.heap.size + 1 := by omega
    have HK := hide (blk_other hK hD' 0 (.bool true))
    clear hat hg hB hK
    gi_wp2
    refine ⟨by simp, .inl ⟨_, _, rfl, run_takeDeferred HK.out, ?_⟩⟩
    have k2 := blk_cell (blk_kept T2.out (grownBy_putObj' _ D (.deferred none)) (fun r e => by cases e; exact ⟨_, HK.out, rfl⟩)) 0
    have k2' : ((W.setCell ⟨w.heap.size + 1, 0, none⟩ (.bool true)).putObj D (.deferred none)).cell? ⟨w.heap.size + 1, 0, none⟩ = some (.bool true) := k2
    refine ⟨.bool true, ?_, by rw [← hys, HG.out], HB2.out.trans (belowK_b (w := w) (Nat.le_refl _) _ D _ _ (by omega) HK.out rfl rfl)⟩
    simp [results, Tryd.f60, go_sem, k2']
  case stop =>
    rintro D c pre W hD hpre ⟨⟨rfl, hg, hat⟩, hB⟩ hK
    have HG := hide hg
    gi_wp2
    refine ⟨by simp, .inl ⟨_, _, rfl, run_takeDeferred hK, ?_⟩⟩
    have k2 := blk_cell (blk_kept hat.1 (grownBy_putObj' _ D (.deferred none)) (fun r e => by cases e; exact ⟨_, hK, rfl⟩)) 0
    simp only [List.getElem?_toArray, List.getElem?_cons_zero, List.getElem?_cons_succ] at k2
    refine ⟨.bool false, ?_, by rw [goodT_pre hpre HG.out], hB.trans (belowK_b (w := w) (Nat.le_refl _) W D _ _ (by omega) hK rfl rfl)⟩
    simp [results, Tryd.f60, go_sem, k2]

theorem rightT_any (t : Tm) (ht : t.bs.size + t.ag.size ≤ 900000) (v : Value) (X : Nat → Prop) (w : World) (hX : ∀ x, X x → x < w.heap.size) (hv : TV w X v t) :
    Calls Tryd.prog 60 #[v] w fun e W' => e = .returned (.bool (goodT (1 :: deps 2 t.ag))) ∧ Chg (fun _ => False) w W' :=
  (callsIn_wide.1 (rightT_in t ht v X w hX hv)).mono fun e W' ⟨h1, h2⟩ => ⟨h1, (Chg.of_below h2).mono (fun k hk h => by omega)⟩
end Go.Proofs.YtnpcapdlgcaniaaDoor
