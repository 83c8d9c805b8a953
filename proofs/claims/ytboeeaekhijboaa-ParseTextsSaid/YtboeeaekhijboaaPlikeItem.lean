/- The document's LikeItem. -/
import Derived.Test.YtboeeaekhijboaaShort
import Derived.Test.YtboeeaekhijboaaPlike
import Derived.Test.YtboeeaekhijboaaPitem
import Derived.Deep.CutBlock
namespace Go.Proofs.Ytboeeaekhijboaa
open Go.RowKit
set_option linter.unusedVariables false
set_option linter.unusedSimpArgs false

/-- the same words -/
def wordsEq : List ByteArray → List ByteArray → Bool
 | [], [] => true
 | a :: r, b :: q => (a.toList == b.toList) && wordsEq r q
 | _, _ => false
theorem wordsEq_len : ∀ {l m : List ByteArray}, wordsEq l m = true → l.length = m.length
 | [], [], _ => rfl
 | a :: r, b :: q, h => by
   simp only [wordsEq, Bool.and_eq_true] at h
   simp only [List.length_cons, wordsEq_len h.2]
 | [], _ :: _, h => by simp [wordsEq] at h
 | _ :: _, [], h => by simp [wordsEq] at h
theorem wordsEq_get : ∀ {l m : List ByteArray}, wordsEq l m = true → ∀ i (h1 : i < l.length) (h2 : i < m.length), (l[i].toList == m[i].toList) = true
 | [], [], _, i, h1, _ => absurd h1 (Nat.not_lt_zero _)
 | a :: r, b :: q, h, 0, _, _ => by
   simp only [wordsEq, Bool.and_eq_true] at h
   exact h.1
 | a :: r, b :: q, h, i + 1, h1, h2 => by
   simp only [wordsEq, Bool.and_eq_true] at h
   simp only [List.getElem_cons_succ]
   exact wordsEq_get h.2 i _ _
 | [], _ :: _, h, _, _, _ => by simp [wordsEq] at h
 | _ :: _, [], h, _, _, _ => by simp [wordsEq] at h
theorem wordsEq_mk : ∀ {l m : List ByteArray}, l.length = m.length → (∀ i (h1 : i < l.length) (h2 : i < m.length), (l[i].toList == m[i].toList) = true) → wordsEq l m = true
 | [], [], _, _ => rfl
 | a :: r, b :: q, hl, h => by
   have h0 := h 0 (by simp) (by simp)
   have hr : wordsEq r q = true := wordsEq_mk (by simpa using hl) (fun i h1 h2 => by
    have := h (i + 1) (by simpa using h1) (by simpa using h2)
    simpa only [List.getElem_cons_succ] using this)
   simp only [List.getElem_cons_zero] at h0
   simp only [wordsEq, h0, hr, Bool.and_self]
 | [], _ :: _, hl, _ => by simp at hl
 | _ :: _, [], hl, _ => by simp at hl
theorem wordsEq_refl : ∀ l : List ByteArray, wordsEq l l = true
 | [] => rfl
 | a :: r => by simp [wordsEq, wordsEq_refl r]
/-- the same item? the flag: where it stands counts, too -/
def likeI (p : Bool) (x y : It) : Bool := (x.1 == y.1) && ((x.2.2.2.1 == y.2.2.2.1) && ((!p || x.2.2.2.2 == y.2.2.2.2) && (wordsEq x.2.1 y.2.1 && likeR p x.2.2.1 y.2.2.1)))
theorem likeI_refl (p : Bool) (x : It) : likeI p x x = true := by simp [likeI, wordsEq_refl, like_refl]
/-- an item that a walk goes through -/
def Ok2 (x : It) : Prop := x.2.1.length ≤ 1000000 ∧ x.2.2.1.len ≤ 1000000 ∧ Slim x.2.2.1
/-- the first i words are the same -/
def WordsTo (l m : List ByteArray) (i : Nat) : Prop := ∀ j (h1 : j < l.length) (h2 : j < m.length), j < i → (l[j].toList == m[j].toList) = true
def WdInv (w1 wr : World) (l m : List ByteArray) (i : Nat) : Prop := Hid (Chg (fun _ => False) w1 wr) ∧ Hid (WordsTo l m i)
set_option maxRecDepth 100000 in
set_option maxHeartbeats 32000000 in
theorem plikei_all (p : Bool) (k k' : Int) (l l' : List ByteArray) (f f' : Ns) (nm nm' at0 at0' : Int) (hl : l.length ≤ 1000000) (hl' : l'.length ≤ 1000000) (hfl : f.len ≤ 1000000) (hsl : Slim f) (hgl : f'.len ≤ 1000000) (hsg : Slim f') (u u' v v' : Value) (X : Nat → Prop) (w : World) (hB : ∀ x, X x → x < w.heap.size)
  (hu : Sw w X u l) (hu' : Sw w X u' l') (hv : Ts w X v f) (hv' : Ts w X v' f') :
  Calls Try.prog 12 #[.agg #[.int .i64 k, u, v, .int .i64 nm, .int .i64 at0], .agg #[.int .i64 k', u', v', .int .i64 nm', .int .i64 at0'], .bool p] w fun e w' => e = .returned (.bool (likeI p (k, l, f, nm, at0) (k', l', f', nm', at0'))) ∧ Chg (fun _ => False) w w' := by
 have SL := hide hsl
 have SG := hide hsg
 obtain ⟨RR, hRR⟩ : ∃ RR, likeI p (k, l, f, nm, at0) (k', l', f', nm', at0') = RR := ⟨_, rfl⟩
 rw [hRR]
 have HR : Hid (((k == k') && ((nm == nm') && ((!p || at0 == at0') && (wordsEq l l' && likeR p f f')))) = RR) := hide hRR
 obtain ⟨au, cu, rfl, hxu⟩ := id hu
 obtain ⟨au', cu', rfl, hxu'⟩ := id hu'
 obtain ⟨av, cap, rfl, hx⟩ := id hv
 obtain ⟨av', cap', rfl, hx'⟩ := id hv'
 have HU := hide hu
 have HU' := hide hu'
 have HV := hide hv
 have HV' := hide hv'
 have HB := hide hB
 have htl := Ns.toL_len f
 have htl' := Ns.toL_len f'
 have G1 := al w (.cells #[.int .i64 k, .slice au l.length cu, .slice av f.len cap, .int .i64 nm, .int .i64 at0] 42)
 have b0 := blk_new w (.cells #[.int .i64 k, .slice au l.length cu, .slice av f.len cap, .int .i64 nm, .int .i64 at0] 42)
 have G2 := al (w.alloc (.cells #[.int .i64 k, .slice au l.length cu, .slice av f.len cap, .int .i64 nm, .int .i64 at0] 42)) (.cells #[.int .i64 k', .slice au' l'.length cu', .slice av' f'.len cap', .int .i64 nm', .int .i64 at0'] 42)
 have b1 := blk_new (w.alloc (.cells #[.int .i64 k, .slice au l.length cu, .slice av f.len cap, .int .i64 nm, .int .i64 at0] 42)) (.cells #[.int .i64 k', .slice au' l'.length cu', .slice av' f'.len cap', .int .i64 nm', .int .i64 at0'] 42)
 have b0' := G2.blk b0
 rw [al_sz] at b1
 have GG := hide (G1.trans G2)
 have BP := hide b0'
 have BQ := hide b1
 have SZ := hide (show ((w.alloc (.cells #[.int .i64 k, .slice au l.length cu, .slice av f.len cap, .int .i64 nm, .int .i64 at0] 42)).alloc (.cells #[.int .i64 k', .slice au' l'.length cu', .slice av' f'.len cap', .int .i64 nm', .int .i64 at0'] 42)).heap.size = w.heap.size + 2 by rw [al_sz, al_sz])
 clear hx hx' hv hv' hB G1 G2 b0 b1 b0' hsl hsg hRR hxu hxu' hu hu'
 go_enter Try.func12, Try.ntmps12
 go_upto_region 1 with fail
 generalize ((w.alloc (.cells #[.int .i64 k, .slice au l.length cu, .slice av f.len cap, .int .i64 nm, .int .i64 at0] 42)).alloc (.cells #[.int .i64 k', .slice au' l'.length cu', .slice av' f'.len cap', .int .i64 nm', .int .i64 at0'] 42)) = w1 at *
 obtain ⟨P, hP⟩ : ∃ P, w.heap.size = P := ⟨_, rfl⟩
 obtain ⟨Q, hQ⟩ : ∃ Q, P + 1 = Q := ⟨_, rfl⟩
 have hZ := SZ.out
 rw [hP] at BP BQ hZ ⊢
 rw [hQ] at BQ ⊢
 have HO : Hid (Q < w1.heap.size ∧ P < Q ∧ w.heap.size = P) := hide (by refine ⟨by omega, by omega, hP⟩)
 clear hP hQ SZ hZ
 have p0 := blk_cell BP.out 0
 have q0 := blk_cell BQ.out 0
 have p1 := blk_cell BP.out 1
 have q1 := blk_cell BQ.out 1
 have p2 := blk_cell BP.out 2
 have q2 := blk_cell BQ.out 2
 have p3 := blk_cell BP.out 3
 have q3 := blk_cell BQ.out 3
 have p4 := blk_cell BP.out 4
 have q4 := blk_cell BQ.out 4
 simp only [gets] at p0 p1 p2 p3 p4 q0 q1 q2 q3 q4
 obtain ⟨D, hD⟩ : ∃ D, ((k != k') || ((nm != nm') || ((p && (at0 != at0')) || ((decide (l.length ≠ l'.length)) || (decide (f.len ≠ f'.len)))))) = D := ⟨_, rfl⟩
 have HD := hide hD
 clear hD
 go_cut [48] (fun sv wx => sv = .bool D ∧ w1 = wx)
 case first =>
  clear htl htl' hl hl' hfl hgl
  cases e1 : (k != k')
  ·
   cases e2 : (nm != nm')
   ·
    cases hp : p
    ·
     subst hp
     by_cases e4 : l.length = l'.length
     ·
      have e4' : ((l.length : Int) != (l'.length : Int)) = false := by rw [e4]; simp
      have E4 : Hid (l.length = l'.length) := hide e4
      clear e4
      by_cases e5 : f.len = f'.len
      ·
       have e5' : ((f.len : Int) != (f'.len : Int)) = false := by rw [e5]; simp
       have E5 : Hid (f.len = f'.len) := hide e5
       clear e5
       go_wp2_with fail
       go_meet
       exact ⟨by rw [← HD.out, e1, e2]; simp [E4.out, E5.out], rfl⟩
      ·
       have e5' : ((f.len : Int) != (f'.len : Int)) = true := by simp; omega
       have E5 : Hid (¬ f.len = f'.len) := hide e5
       clear e5
       go_wp2_with fail
       go_meet
       exact ⟨by rw [← HD.out, e1, e2]; simp [E4.out, E5.out], rfl⟩
     ·
      have e4' : ((l.length : Int) != (l'.length : Int)) = true := by simp; omega
      have E4 : Hid (¬ l.length = l'.length) := hide e4
      clear e4
      go_wp2_with fail
      go_meet
      exact ⟨by rw [← HD.out, e1, e2]; simp [E4.out], rfl⟩
    ·
     subst hp
     cases e3 : (at0 != at0')
     ·
      by_cases e4 : l.length = l'.length
      ·
       have e4' : ((l.length : Int) != (l'.length : Int)) = false := by rw [e4]; simp
       have E4 : Hid (l.length = l'.length) := hide e4
       clear e4
       by_cases e5 : f.len = f'.len
       ·
        have e5' : ((f.len : Int) != (f'.len : Int)) = false := by rw [e5]; simp
        have E5 : Hid (f.len = f'.len) := hide e5
        clear e5
        go_wp2_with fail
        go_meet
        exact ⟨by rw [← HD.out, e1, e2, e3]; simp [E4.out, E5.out], rfl⟩
       ·
        have e5' : ((f.len : Int) != (f'.len : Int)) = true := by simp; omega
        have E5 : Hid (¬ f.len = f'.len) := hide e5
        clear e5
        go_wp2_with fail
        go_meet
        exact ⟨by rw [← HD.out, e1, e2, e3]; simp [E4.out, E5.out], rfl⟩
      ·
       have e4' : ((l.length : Int) != (l'.length : Int)) = true := by simp; omega
       have E4 : Hid (¬ l.length = l'.length) := hide e4
       clear e4
       go_wp2_with fail
       go_meet
       exact ⟨by rw [← HD.out, e1, e2, e3]; simp [E4.out], rfl⟩
     ·
      go_wp2_with fail
      go_meet
      exact ⟨by rw [← HD.out, e1, e2, e3]; rfl, rfl⟩
   ·
    go_wp2_with fail
    go_meet
    exact ⟨by rw [← HD.out, e1, e2]; rfl, rfl⟩
  ·
   go_wp2_with fail
   go_meet
   exact ⟨by rw [← HD.out, e1]; rfl, rfl⟩
 case rest =>
 obtain ⟨rfl, rfl⟩ := hcut
 cases D
 rotate_left
 ·
  have HF : Hid (false = RR) := hide (by
   cases hR : RR with
   | false => rfl
   | true =>
     exfalso
     have h := HR.out
     rw [hR] at h
     simp only [Bool.and_eq_true] at h
     obtain ⟨h1, h2, h3, h4, h5⟩ := h
     have hd := HD.out
     have k1 := wordsEq_len h4
     have k2 := like_len h5
     have h1' : k = k' := by simpa using h1
     have h2' : nm = nm' := by simpa using h2
     subst h1' h2'
     rw [k1, k2] at hd
     cases p <;> simp_all)
  clear HV HV' HU HU' p0 p1 p2 p3 p4 q0 q1 q2 q3 q4
  go_wp2_with fail
  go_ret
  exact ⟨by have h := HF.out; subst h; rfl, GG.out⟩
 ·
  have EL : Hid (l.length = l'.length ∧ f.len = f'.len) := hide (by
   have h := HD.out
   simp only [Bool.or_eq_false_iff, decide_eq_false_iff_not, Decidable.not_not] at h
   exact ⟨h.2.2.2.1, h.2.2.2.2⟩)
  have HR : Hid ((wordsEq l l' && likeR p f f') = RR) := hide (by
   have h := HR.out
   have hd := HD.out
   simp only [Bool.or_eq_false_iff] at hd
   have h1 : k = k' := by simpa using hd.1
   have h2 : nm = nm' := by simpa using hd.2.1
   subst h1 h2
   have h3 : (!p || at0 == at0') = true := by
    have := hd.2.2.1
    cases p <;> simp_all
   rw [h3] at h
   simpa using h)
  clear HD p0 p3 p4 q0 q3 q4
  go_upto_block 0 with fail
  clear p1 p2 q1 q2
  go_wp2_with fail
  go_loopw [7] (fun iv wr => ∃ (i : Nat), i ≤ l.length ∧ iv = .int .i64 i ∧ Hid (WdInv w1 wr l l' i)) (fun iv _ => l.length - (intOf iv).toNat)
  case atStart => exact ⟨0, Nat.zero_le _, rfl, hide ⟨hide (Chg.refl _ _), hide (fun j _ _ h => absurd h (Nat.not_lt_zero _))⟩⟩
  case round =>
   obtain ⟨i, hi, rfl, hIN⟩ := hrel
   obtain ⟨hC, hM⟩ := hIN.out
   clear hIN
   have p1 : wr.cell? ⟨P, 1, none⟩ = some (.slice au l.length cu) := hC.out.cell (fun h => h) (blk_cell BP.out 1)
   have q1 : wr.cell? ⟨Q, 1, none⟩ = some (.slice au' l'.length cu') := hC.out.cell (fun h => h) (blk_cell BQ.out 1)
   by_cases hlt : i < l.length
   ·
    have hlt' : i < l'.length := by have := EL.out.1; omega
    obtain ⟨la, lc, hlv, hl0⟩ := HU.out
    rcases hl0 with h0 | ⟨b, off, rfl, hg, hl0⟩
    ·
     subst h0; exact absurd hlt (Nat.not_lt_zero _)
    injection hlv with e1 e2 e3
    subst e1 e3
    obtain ⟨la', lc', hlv', hl0'⟩ := HU'.out
    rcases hl0' with h0 | ⟨b', off', rfl, hg', hl0'⟩
    ·
     subst h0; exact absurd hlt' (Nat.not_lt_zero _)
    injection hlv' with e1 e2 e3
    subst e1 e3
    have WC := GG.out.trans hC.out
    have d0 := WC.cell (fun h => h) (hl0 i hlt)
    have d0' := WC.cell (fun h => h) (hl0' i hlt')
    have i1 : (0 : Int) ≤ (i : Int) := by omega
    have i2 : (i : Int) < (l.length : Int) := by omega
    have i3 : (i : Int) < (l'.length : Int) := by omega
    obtain ⟨L, hL⟩ : ∃ L, (l[i].toList == l'[i].toList) = L := ⟨_, rfl⟩
    have HG := hide (fun (h : L = false) => (show false = RR by
     cases hR : RR with
     | false => rfl
     | true =>
       have h1 := HR.out.trans hR
       simp only [Bool.and_eq_true] at h1
       have := wordsEq_get h1.1 i hlt hlt'
       rw [hL, h] at this; exact absurd this (by decide)))
    have HT := hide (fun (h : L = true) => show WordsTo l l' (i + 1) from fun j h1 h2 h3 => by
     by_cases e : j < i
     ·
      exact hM.out j h1 h2 e
     ·
      have : j = i := by omega
      subst this
      exact hL.trans h)
    clear hl0 hl0' hM
    have eL' : (l[i].toList == l'[i].toList) = L := hL
    clear hL
    generalize l[i] = k0 at *
    generalize l'[i] = m0 at *
    go_wp2_with fail
    refine wp_region_held_drew (S := (fun w' => w'.cell? ⟨P, 1, none⟩ = some (.slice (some ⟨b, off, none⟩) l.length cu) ∧ w'.cell? ⟨Q, 1, none⟩ = some (.slice (some ⟨b', off', none⟩) l'.length cu') ∧ w'.cell? ⟨b, off + i, none⟩ = some (.string k0) ∧ w'.cell? ⟨b', off' + i, none⟩ = some (.string m0))) (by kernel_rfl) (by go_keep) (fun hHeld => ?_)
    first
     | (refine tku 0 ?_)
     | (refine tkl 0 ?_ ?_ ?_
        rotate_left
        (intro w hSw
         (try dsimp only at hSw)
         (go_simp <;> with_reducible rfl)))
    try simp only [Act.put, puts]
    first
     | (refine tku 1 ?_)
     | (refine tkl 1 ?_ ?_ ?_
        rotate_left
        (intro w hSw
         (try dsimp only at hSw)
         (go_simp <;> with_reducible rfl)))
    try simp only [Act.put, puts]
    first
     | (refine tku 2 ?_)
     | (refine tkl 2 ?_ ?_ ?_
        rotate_left
        (intro w hSw
         (try dsimp only at hSw)
         (go_simp <;> with_reducible rfl)))
    try simp only [Act.put, puts]
    first
     | (refine tku 3 ?_)
     | (refine tkl 3 ?_ ?_ ?_
        rotate_left
        (intro w hSw
         (try dsimp only at hSw)
         (go_simp <;> with_reducible rfl)))
    try simp only [Act.put, puts]
    first
     | (refine tku 4 ?_)
     | (refine tkl 4 ?_ ?_ ?_
        rotate_left
        (intro w hSw
         (try dsimp only at hSw)
         (go_simp <;> with_reducible rfl)))
    try simp only [Act.put, puts]
    first
     | (refine tku 5 ?_)
     | (refine tkl 5 ?_ ?_ ?_
        rotate_left
        (intro w hSw
         (try dsimp only at hSw)
         (go_simp <;> with_reducible rfl)))
    try simp only [Act.put, puts]
    first
     | (refine tku 6 ?_)
     | (refine tkl 6 ?_ ?_ ?_
        rotate_left
        (intro w hSw
         (try dsimp only at hSw)
         (go_simp <;> with_reducible rfl)))
    try simp only [Act.put, puts]
    first
     | (refine tku 7 ?_)
     | (refine tkl 7 ?_ ?_ ?_
        rotate_left
        (intro w hSw
         (try dsimp only at hSw)
         (go_simp <;> with_reducible rfl)))
    try simp only [Act.put, puts]
    first
     | (refine tku 8 ?_)
     | (refine tkl 8 ?_ ?_ ?_
        rotate_left
        (intro w hSw
         (try dsimp only at hSw)
         (go_simp <;> with_reducible rfl)))
    try simp only [Act.put, puts]
    first
     | (refine tku 9 ?_)
     | (refine tkl 9 ?_ ?_ ?_
        rotate_left
        (intro w hSw
         (try dsimp only at hSw)
         (go_simp <;> with_reducible rfl)))
    try simp only [Act.put, puts]
    first
     | (refine tku 10 ?_)
     | (refine tkl 10 ?_ ?_ ?_
        rotate_left
        (intro w hSw
         (try dsimp only at hSw)
         (go_simp <;> with_reducible rfl)))
    try simp only [Act.put, puts]
    refine wpAnyH_done (by kernel_rfl) ?_ _
    cases L
    ·
     have HG2 := hide (HG.out rfl)
     have G6 := hide (GG.out.trans hC.out)
     clear HT HG
     go_wp2_with fail
     go_ret
     exact ⟨by have h := HG2.out; subst h; rfl, G6.out.drew⟩
    ·
     have F9 : Hid (WdInv w1 wr.drew l l' (i + 1)) := hide ⟨hide hC.out.drew, hide (HT.out rfl)⟩
     clear HG HT
     go_wp2_with fail
     go_roundw
     case rel => exact ⟨i + 1, by omega, by go_num, F9⟩
     case measure => simp [intOf]; omega
   ·
    have hif : i = l.length := by omega
    have WE : Hid (wordsEq l l' = true) := hide (wordsEq_mk EL.out.1 (fun j h1 h2 => hM.out j h1 h2 (by omega)))
    have HR : Hid (likeR p f f' = RR) := hide (by have := HR.out; rw [WE.out] at this; simpa using this)
    have i2 : decide (i < l.length) = false := by simp [hlt]
    have hC1 := hC
    clear hM WE hC HU HU' hlt
    generalize wr = wa at *
    go_upto_block 2 with fail
    clear p1 q1 i2
    go_wp2_with fail
    go_loopw [8] (fun iv wr => ∃ (i : Nat), i ≤ f.len ∧ iv = .int .i64 i ∧ Hid (LkInv wa wr p f f' i)) (fun iv _ => f.len - (intOf iv).toNat)
    case atStart => exact ⟨0, Nat.zero_le _, rfl, hide ⟨hide (Chg.refl _ _), hide (fun j _ _ h => absurd h (Nat.not_lt_zero _))⟩⟩
    case round =>
     clear hi hif
     obtain ⟨i, hi, rfl, hIN⟩ := hrel
     obtain ⟨hC, hM⟩ := hIN.out
     clear hIN
     have p2 : wr.cell? ⟨P, 2, none⟩ = some (.slice av f.len cap) := hC.out.cell (fun h => h) (hC1.out.cell (fun h => h) (blk_cell BP.out 2))
     have q2 : wr.cell? ⟨Q, 2, none⟩ = some (.slice av' f'.len cap') := hC.out.cell (fun h => h) (hC1.out.cell (fun h => h) (blk_cell BQ.out 2))
     by_cases hlt : i < f.len
     ·
      have hit : i < f.toL.length := by omega
      have hit' : i < f'.toL.length := by have := EL.out.2; omega
      obtain ⟨la, lc, hlv, hl0⟩ := HV.out
      rcases hl0 with h0 | ⟨b, off, rfl, hg, hl0⟩
      ·
       subst h0; exact absurd hlt (Nat.not_lt_zero _)
      injection hlv with e1 e2 e3
      subst e1 e3
      obtain ⟨la', lc', hlv', hl0'⟩ := HV'.out
      rcases hl0' with h0 | ⟨b', off', rfl, hg', hl0'⟩
      ·
       subst h0; have := EL.out.2; simp only [Ns.len] at this; omega
      injection hlv' with e1 e2 e3
      subst e1 e3
      obtain ⟨c0, c1, c2, vi, c3, ti⟩ := lies_get hl0 i hit
      obtain ⟨ka, kc, rfl, _⟩ := id ti
      obtain ⟨c0', c1', c2', vi', c3', ti'⟩ := lies_get hl0' i hit'
      obtain ⟨ka', kc', rfl, _⟩ := id ti'
      have hsl := slim_get SL.out i hit
      have hsg := slim_get SG.out i hit'
      have WC := (GG.out.trans hC1.out).trans hC.out
      have d0 := WC.cell (fun h => h) c0
      have d1 := WC.cell (fun h => h) c1
      have d2 := WC.cell (fun h => h) c2
      have d3 := WC.cell (fun h => h) c3
      have d0' := WC.cell (fun h => h) c0'
      have d1' := WC.cell (fun h => h) c1'
      have d2' := WC.cell (fun h => h) c2'
      have d3' := WC.cell (fun h => h) c3'
      have BW := fun x (hx : X x) => Nat.lt_of_lt_of_le (HB.out x hx) WC.size
      have WD := (Chg.refl (fun _ => False) wr).drew
      have KI := hide (plike_any p f.toL[i] f'.toL[i] hsl hsg (.agg #[.int .i64 (f.toL[i]).kind, .string (f.toL[i]).word, .int .i64 (f.toL[i]).at, .slice ka (f.toL[i]).kids.len kc]) (.agg #[.int .i64 (f'.toL[i]).kind, .string (f'.toL[i]).word, .int .i64 (f'.toL[i]).at, .slice ka' (f'.toL[i]).kids.len kc']) X wr.drew BW ⟨ka, kc, rfl, (ti.chg WC (fun _ _ h => h)).chg WD (fun _ _ h => h)⟩ ⟨ka', kc', rfl, (ti'.chg WC (fun _ _ h => h)).chg WD (fun _ _ h => h)⟩)
      have i1 : (0 : Int) ≤ (i : Int) := by omega
      have i2 : (i : Int) < (f.len : Int) := by omega
      have i3 : (i : Int) < (f'.len : Int) := by have := EL.out.2; omega
      have HG := hide (fun (h : likeN p f.toL[i] f'.toL[i] = false) => (show false = RR by
       cases hR : RR with
       | false => rfl
       | true => have := like_get (HR.out.trans hR) i hit hit'; rw [h] at this; exact absurd this (by decide)))
      have HT := hide (fun (h : likeN p f.toL[i] f'.toL[i] = true) => show LikeTo p f f' (i + 1) from fun j h1 h2 h3 => by
       by_cases e : j < i
       ·
        exact hM.out j h1 h2 e
       ·
        have : j = i := by omega
        subst this
        exact h)
      clear hl0 hl0' c0 c1 c2 c3 c0' c1' c2' c3' ti ti' hsl hsg WC BW WD hM
      dsimp only [Nd.kind, Nd.word, Nd.at, Nd.kids] at d0 d1 d2 d3 d0' d1' d2' d3' KI
      obtain ⟨L, hL⟩ : ∃ L, likeN p f.toL[i] f'.toL[i] = L := ⟨_, rfl⟩
      rw [hL] at KI HG HT
      clear hL
      generalize (f.toL[i]).1 = k0 at *
      generalize (f.toL[i]).2.1 = k1 at *
      generalize (f.toL[i]).2.2.1 = k2 at *
      generalize (f.toL[i]).2.2.2 = k3 at *
      generalize (f'.toL[i]).1 = m0 at *
      generalize (f'.toL[i]).2.1 = m1 at *
      generalize (f'.toL[i]).2.2.1 = m2 at *
      generalize (f'.toL[i]).2.2.2 = m3 at *
      go_wp2_with fail
      refine wp_region_held_drew (S := (fun w' => w'.cell? ⟨P, 2, none⟩ = some (.slice (some ⟨b, off, none⟩) f.len cap) ∧ w'.cell? ⟨Q, 2, none⟩ = some (.slice (some ⟨b', off', none⟩) f'.len cap') ∧ w'.cell? ⟨b, off + i * 4, none⟩ = some (.int .i64 k0) ∧ w'.cell? ⟨b, off + i * 4 + 1, none⟩ = some (.string k1) ∧ w'.cell? ⟨b, off + i * 4 + 2, none⟩ = some (.int .i64 k2) ∧ w'.cell? ⟨b, off + i * 4 + 3, none⟩ = some (.slice ka k3.len kc) ∧ w'.cell? ⟨b', off' + i * 4, none⟩ = some (.int .i64 m0) ∧ w'.cell? ⟨b', off' + i * 4 + 1, none⟩ = some (.string m1) ∧ w'.cell? ⟨b', off' + i * 4 + 2, none⟩ = some (.int .i64 m2) ∧ w'.cell? ⟨b', off' + i * 4 + 3, none⟩ = some (.slice ka' m3.len kc'))) (by kernel_rfl) (by go_keep) (fun hHeld => ?_)
      first
       | (refine tku 0 ?_)
       | (refine tkl 0 ?_ ?_ ?_
          rotate_left
          (intro w hSw
           (try dsimp only at hSw)
           (go_simp <;> with_reducible rfl)))
      try simp only [Act.put, puts]
      first
       | (refine tku 1 ?_)
       | (refine tkl 1 ?_ ?_ ?_
          rotate_left
          (intro w hSw
           (try dsimp only at hSw)
           (go_simp <;> with_reducible rfl)))
      try simp only [Act.put, puts]
      first
       | (refine tku 2 ?_)
       | (refine tkl 2 ?_ ?_ ?_
          rotate_left
          (intro w hSw
           (try dsimp only at hSw)
           (go_simp <;> with_reducible rfl)))
      try simp only [Act.put, puts]
      first
       | (refine tku 3 ?_)
       | (refine tkl 3 ?_ ?_ ?_
          rotate_left
          (intro w hSw
           (try dsimp only at hSw)
           (go_simp <;> with_reducible rfl)))
      try simp only [Act.put, puts]
      first
       | (refine tku 4 ?_)
       | (refine tkl 4 ?_ ?_ ?_
          rotate_left
          (intro w hSw
           (try dsimp only at hSw)
           (go_simp <;> with_reducible rfl)))
      try simp only [Act.put, puts]
      first
       | (refine tku 5 ?_)
       | (refine tkl 5 ?_ ?_ ?_
          rotate_left
          (intro w hSw
           (try dsimp only at hSw)
           (go_simp <;> with_reducible rfl)))
      try simp only [Act.put, puts]
      first
       | (refine tku 6 ?_)
       | (refine tkl 6 ?_ ?_ ?_
          rotate_left
          (intro w hSw
           (try dsimp only at hSw)
           (go_simp <;> with_reducible rfl)))
      try simp only [Act.put, puts]
      first
       | (refine tku 7 ?_)
       | (refine tkl 7 ?_ ?_ ?_
          rotate_left
          (intro w hSw
           (try dsimp only at hSw)
           (go_simp <;> with_reducible rfl)))
      try simp only [Act.put, puts]
      first
       | (refine tku 8 ?_)
       | (refine tkl 8 ?_ ?_ ?_
          rotate_left
          (intro w hSw
           (try dsimp only at hSw)
           (go_simp <;> with_reducible rfl)))
      try simp only [Act.put, puts]
      first
       | (refine tku 9 ?_)
       | (refine tkl 9 ?_ ?_ ?_
          rotate_left
          (intro w hSw
           (try dsimp only at hSw)
           (go_simp <;> with_reducible rfl)))
      try simp only [Act.put, puts]
      first
       | (refine tku 10 ?_)
       | (refine tkl 10 ?_ ?_ ?_
          rotate_left
          (intro w hSw
           (try dsimp only at hSw)
           (go_simp <;> with_reducible rfl)))
      try simp only [Act.put, puts]
      refine rd1 11 (fun K hK => ?_)
      go_simp
      refine KI.out.mono ?_
      rintro e w6 ⟨rfl, g6⟩
      have WG := (Chg.refl (fun _ => False) wr).drew.trans g6
      have x0 := WG.cell (fun h => h) p2
      have x1 := WG.cell (fun h => h) q2
      have x2 := WG.cell (fun h => h) d0
      have x3 := WG.cell (fun h => h) d1
      have x4 := WG.cell (fun h => h) d2
      have x5 := WG.cell (fun h => h) d3
      have x6 := WG.cell (fun h => h) d0'
      have x7 := WG.cell (fun h => h) d1'
      have x8 := WG.cell (fun h => h) d2'
      have x9 := WG.cell (fun h => h) d3'
      have C6 := hide (hC.out.trans WG)
      have G6 := hide ((GG.out.trans hC1.out).trans C6.out)
      clear g6 WG
      try go_simp
      refine hK.out _ _ ⟨x0, x1, x2, x3, x4, x5, x6, x7, x8, x9⟩ (fun hHeld => ?_)
      clear hK K
      try simp only [Act.put, puts]
      first
       | (refine tku 12 ?_)
       | (refine tkl 12 ?_ ?_ ?_
          rotate_left
          (intro w hSw
           (try dsimp only at hSw)
           (go_simp <;> with_reducible rfl)))
      try simp only [Act.put, puts]
      refine wpAnyH_done (by kernel_rfl) ?_ _
      cases L
      ·
       have HG2 := hide (HG.out rfl)
       clear HT HG
       go_wp2_with fail
       go_ret
       exact ⟨by have h := HG2.out; subst h; rfl, G6.out⟩
      ·
       have F9 : Hid (LkInv wa w6 p f f' (i + 1)) := hide ⟨C6, hide (HT.out rfl)⟩
       clear HG HT
       go_wp2_with fail
       go_roundw
       case rel => exact ⟨i + 1, by omega, by go_num, F9⟩
       case measure => simp [intOf]; omega
     ·
      have hif : i = f.len := by omega
      have HX := hide (show RR = true from HR.out.symm.trans (like_mk EL.out.2 (fun j h1 h2 => hM.out j h1 h2 (by omega))))
      have GX := hide ((GG.out.trans hC1.out).trans hC.out)
      clear hM HV HV'
      have i2 : decide (i < f.len) = false := by simp [hlt]
      subst hif
      go_wp2_with fail
      go_ret
      exact ⟨by have h := HX.out; subst h; rfl, GX.out⟩

theorem plikei_any (p : Bool) (x y : It) (hx : Ok2 x) (hy : Ok2 y) (v v' : Value) (X : Nat → Prop) (w : World) (hX : ∀ x, X x → x < w.heap.size) (hv : IV w X v x) (hv' : IV w X v' y) :
  Calls Try.prog 12 #[v, v', .bool p] w fun e w' => e = .returned (.bool (likeI p x y)) ∧ Chg (fun _ => False) w w' := by
 obtain ⟨u1, u2, rfl, h1, h2⟩ := hv
 obtain ⟨u1', u2', rfl, h1', h2'⟩ := hv'
 exact plikei_all p x.1 y.1 x.2.1 y.2.1 x.2.2.1 y.2.2.1 x.2.2.2.1 y.2.2.2.1 x.2.2.2.2 y.2.2.2.2 hx.1 hy.1 hx.2.1 hx.2.2 hy.2.1 hy.2.2 u1 u1' u2 u2' X w hX h1 h1' h2 h2'
end Go.Proofs.Ytboeeaekhijboaa
