/- The document's Like. -/
import Derived.Test.YtboeeaekhijboaaShort
import Derived.Test.YtboeeaekhijboaaPof
import Derived.Deep.CutBlock
namespace Go.Proofs.Ytboeeaekhijboaa
open Go.RowKit
set_option linter.unusedVariables false
set_option linter.unusedSimpArgs false

/-- the same tree? the flag: where it stands counts, too -/
def likeR (p : Bool) : Ns → Ns → Bool
 | .nil, .nil => true
 | .cons k s a x r, .cons k' s' a' x' r' => (k == k') && ((s.toList == s'.toList) && ((!p || a == a') && (likeR p x x' && likeR p r r')))
 | _, _ => false
def likeN (p : Bool) (n m : Nd) : Bool := (n.kind == m.kind) && ((n.word.toList == m.word.toList) && ((!p || n.at == m.at) && likeR p n.kids m.kids))
theorem like_len {p : Bool} : ∀ {f g : Ns}, likeR p f g = true → f.len = g.len
 | .nil, .nil, _ => rfl
 | .cons k s a x r, .cons k' s' a' x' r', h => by
   simp only [likeR, Bool.and_eq_true] at h
   simp only [Ns.len, like_len h.2.2.2.2]
 | .nil, .cons _ _ _ _ _, h => by simp [likeR] at h
 | .cons _ _ _ _ _, .nil, h => by simp [likeR] at h
theorem like_get {p : Bool} : ∀ {f g : Ns}, likeR p f g = true → ∀ i (h1 : i < f.toL.length) (h2 : i < g.toL.length), likeN p f.toL[i] g.toL[i] = true
 | .nil, .nil, _, i, h1, _ => absurd h1 (Nat.not_lt_zero _)
 | .cons k s a x r, .cons k' s' a' x' r', h, 0, h1, h2 => by
   simp only [likeR, Bool.and_eq_true] at h
   simp only [likeN, Ns.toL, List.getElem_cons_zero, Bool.and_eq_true]
   exact ⟨h.1, h.2.1, h.2.2.1, h.2.2.2.1⟩
 | .cons k s a x r, .cons k' s' a' x' r', h, i + 1, h1, h2 => by
   simp only [likeR, Bool.and_eq_true] at h
   simp only [Ns.toL, List.getElem_cons_succ]
   exact like_get h.2.2.2.2 i _ _
 | .nil, .cons _ _ _ _ _, h, _, _, _ => by simp [likeR] at h
 | .cons _ _ _ _ _, .nil, h, _, _, _ => by simp [likeR] at h
theorem like_mk {p : Bool} : ∀ {f g : Ns}, f.len = g.len → (∀ i (h1 : i < f.toL.length) (h2 : i < g.toL.length), likeN p f.toL[i] g.toL[i] = true) → likeR p f g = true
 | .nil, .nil, _, _ => rfl
 | .cons k s a x r, .cons k' s' a' x' r', hl, h => by
   have h0 := h 0 (by simp [Ns.toL]) (by simp [Ns.toL])
   simp only [likeN, Ns.toL, List.getElem_cons_zero, Bool.and_eq_true] at h0
   have hr : likeR p r r' = true := like_mk (by simpa [Ns.len] using hl) (fun i h1 h2 => by
    have := h (i + 1) (by simpa [Ns.toL] using h1) (by simpa [Ns.toL] using h2)
    simpa only [Ns.toL, List.getElem_cons_succ] using this)
   simp only [likeR, Bool.and_eq_true]
   exact ⟨h0.1, h0.2.1, h0.2.2.1, h0.2.2.2, hr⟩
 | .nil, .cons _ _ _ _ _, hl, _ => by simp [Ns.len] at hl
 | .cons _ _ _ _ _, .nil, hl, _ => by simp [Ns.len] at hl
/-- the first i are the same -/
def LikeTo (p : Bool) (f g : Ns) (i : Nat) : Prop := ∀ j (h1 : j < f.toL.length) (h2 : j < g.toL.length), j < i → likeN p f.toL[j] g.toL[j] = true
/-- what the loop keeps -/
def LkInv (w1 wr : World) (p : Bool) (f g : Ns) (i : Nat) : Prop := Hid (Chg (fun _ => False) w1 wr) ∧ Hid (LikeTo p f g i)
theorem like_refl (p : Bool) : ∀ f : Ns, likeR p f f = true
 | .nil => rfl
 | .cons k s a x r => by simp [likeR, like_refl p x, like_refl p r]
theorem likeN_refl (p : Bool) (n : Nd) : likeN p n n = true := by simp [likeN, like_refl]

set_option maxRecDepth 100000 in
set_option maxHeartbeats 32000000 in
theorem plike_step (p : Bool) (n : Nat) (ih : ∀ (f : Ns), f.size < n → f.len ≤ 1000000 → Slim f → ∀ (g : Ns), g.len ≤ 1000000 → Slim g → ∀ (k k' : Int) (s s' : ByteArray) (a a' : Int) (v v' : Value) (X : Nat → Prop) (w : World), (∀ x, X x → x < w.heap.size) → Ts w X v f → Ts w X v' g →
  Calls Try.prog 17 #[.agg #[.int .i64 k, .string s, .int .i64 a, v], .agg #[.int .i64 k', .string s', .int .i64 a', v'], .bool p] w fun e w' => e = .returned (.bool (likeN p (k, s, a, f) (k', s', a', g))) ∧ Chg (fun _ => False) w w')
  (f : Ns) (hf : f.size ≤ n) (hfl : f.len ≤ 1000000) (hsl : Slim f) (g : Ns) (hgl : g.len ≤ 1000000) (hsg : Slim g) (k k' : Int) (s s' : ByteArray) (a a' : Int) (v v' : Value) (X : Nat → Prop) (w : World) (hB : ∀ x, X x → x < w.heap.size) (hv : Ts w X v f) (hv' : Ts w X v' g) :
  Calls Try.prog 17 #[.agg #[.int .i64 k, .string s, .int .i64 a, v], .agg #[.int .i64 k', .string s', .int .i64 a', v'], .bool p] w fun e w' => e = .returned (.bool (likeN p (k, s, a, f) (k', s', a', g))) ∧ Chg (fun _ => False) w w' := by
 have IH := hide ih
 have SL := hide hsl
 have SG := hide hsg
 obtain ⟨RR, hRR⟩ : ∃ RR, likeN p (k, s, a, f) (k', s', a', g) = RR := ⟨_, rfl⟩
 rw [hRR]
 have HR : Hid (((k == k') && ((s.toList == s'.toList) && ((!p || a == a') && likeR p f g))) = RR) := hide hRR
 obtain ⟨av, cap, rfl, hx⟩ := id hv
 obtain ⟨av', cap', rfl, hx'⟩ := id hv'
 have HV := hide hv
 have HV' := hide hv'
 have HB := hide hB
 have htl := Ns.toL_len f
 have htl' := Ns.toL_len g
 have HF := hide hf
 have G1 := al w (.cells #[.int .i64 k, .string s, .int .i64 a, .slice av f.len cap] 55)
 have b0 := blk_new w (.cells #[.int .i64 k, .string s, .int .i64 a, .slice av f.len cap] 55)
 have G2 := al (w.alloc (.cells #[.int .i64 k, .string s, .int .i64 a, .slice av f.len cap] 55)) (.cells #[.int .i64 k', .string s', .int .i64 a', .slice av' g.len cap'] 55)
 have b1 := blk_new (w.alloc (.cells #[.int .i64 k, .string s, .int .i64 a, .slice av f.len cap] 55)) (.cells #[.int .i64 k', .string s', .int .i64 a', .slice av' g.len cap'] 55)
 have b0' := G2.blk b0
 rw [al_sz] at b1
 have GG := hide (G1.trans G2)
 have BP := hide b0'
 have BQ := hide b1
 have SZ := hide (show ((w.alloc (.cells #[.int .i64 k, .string s, .int .i64 a, .slice av f.len cap] 55)).alloc (.cells #[.int .i64 k', .string s', .int .i64 a', .slice av' g.len cap'] 55)).heap.size = w.heap.size + 2 by rw [al_sz, al_sz])
 clear hx hx' hv hv' ih hB hf G1 G2 b0 b1 b0' hsl hsg hRR
 go_enter Try.func17, Try.ntmps17
 go_upto_region 1 with fail
 generalize ((w.alloc (.cells #[.int .i64 k, .string s, .int .i64 a, .slice av f.len cap] 55)).alloc (.cells #[.int .i64 k', .string s', .int .i64 a', .slice av' g.len cap'] 55)) = w1 at *
 obtain ⟨P, hP⟩ : ∃ P, w.heap.size = P := ⟨_, rfl⟩
 obtain ⟨Q, hQ⟩ : ∃ Q, P + 1 = Q := ⟨_, rfl⟩
 have hZ := SZ.out
 rw [hP] at BP BQ hZ ⊢
 rw [hQ] at BQ ⊢
 have HO : Hid (Q < w1.heap.size ∧ P < Q ∧ w.heap.size = P) := hide (by refine ⟨by omega, by omega, hP⟩)
 clear hP hQ SZ hZ
 have p0 := blk_cell BP.out 0
 have p1 := blk_cell BP.out 1
 have p2 := blk_cell BP.out 2
 have p3 := blk_cell BP.out 3
 have q0 := blk_cell BQ.out 0
 have q1 := blk_cell BQ.out 1
 have q2 := blk_cell BQ.out 2
 have q3 := blk_cell BQ.out 3
 simp only [gets] at p0 p1 p2 p3 q0 q1 q2 q3
 cases e1 : (k == k')
 ·
  have e1' : (k != k') = true := by simp only [bne, e1, Bool.not_false]
  have HR := hide (show false = RR by have := HR.out; rw [e1] at this; exact this)
  clear HV HV' IH
  go_wp2_with fail
  go_ret
  exact ⟨by have h := HR.out; subst h; rfl, GG.out⟩
 have e1' : (k != k') = false := by simp only [bne, e1, Bool.not_true]
 cases e2 : (s.toList == s'.toList)
 ·
  have e2' : (s.toList != s'.toList) = true := by simp only [bne, e2, Bool.not_false]
  have HR := hide (show false = RR by have := HR.out; rw [e1, e2] at this; exact this)
  clear HV HV' IH
  go_wp2_with fail
  go_ret
  exact ⟨by have h := HR.out; subst h; rfl, GG.out⟩
 have e2' : (s.toList != s'.toList) = false := by simp only [bne, e2, Bool.not_true]
 cases hp : p
 ·
  subst hp
  have HR := hide (show likeR false f g = RR by have := HR.out; rw [e1, e2] at this; exact this)
  by_cases e4 : f.len = g.len
  ·
   have e4' : ((f.len : Int) != (g.len : Int)) = false := by rw [e4]; simp
   have E4 := hide e4
   clear e4
   go_upto_block 0 with fail
   clear p0 p1 p2 q0 q1 q2 e1 e2 e1' e2' e4'
   go_wp2_with fail
   go_loopw [7] (fun iv wr => ∃ (i : Nat), i ≤ f.len ∧ iv = .int .i64 i ∧ Hid (LkInv w1 wr false f g i)) (fun iv _ => f.len - (intOf iv).toNat)
   case atStart => exact ⟨0, Nat.zero_le _, rfl, hide ⟨hide (Chg.refl _ _), hide (fun j _ _ h => absurd h (Nat.not_lt_zero _))⟩⟩
   case round =>
    obtain ⟨i, hi, rfl, hIN⟩ := hrel
    obtain ⟨hC, hM⟩ := hIN.out
    clear hIN
    clear p3 q3
    have p3 : wr.cell? ⟨P, 3, none⟩ = some (.slice av f.len cap) := hC.out.cell (fun h => h) (blk_cell BP.out 3)
    have q3 : wr.cell? ⟨Q, 3, none⟩ = some (.slice av' g.len cap') := hC.out.cell (fun h => h) (blk_cell BQ.out 3)
    by_cases hlt : i < f.len
    ·
     have hit : i < f.toL.length := by omega
     have hit' : i < g.toL.length := by have := E4.out; omega
     obtain ⟨la, lc, hlv, hl⟩ := HV.out
     rcases hl with h0 | ⟨b, off, rfl, hg, hl⟩
     ·
      subst h0; exact absurd hlt (Nat.not_lt_zero _)
     injection hlv with e1 e2 e3
     subst e1 e3
     obtain ⟨la', lc', hlv', hl'⟩ := HV'.out
     rcases hl' with h0 | ⟨b', off', rfl, hg', hl'⟩
     ·
      subst h0; have := E4.out; simp only [Ns.len] at this; omega
     injection hlv' with e1 e2 e3
     subst e1 e3
     obtain ⟨c0, c1, c2, vi, c3, ti⟩ := lies_get hl i hit
     obtain ⟨ka, kc, rfl, _⟩ := id ti
     obtain ⟨c0', c1', c2', vi', c3', ti'⟩ := lies_get hl' i hit'
     obtain ⟨ka', kc', rfl, _⟩ := id ti'
     have hks := Ns.kid_size f i hit
     have hsl := slim_get SL.out i hit
     have hsg := slim_get SG.out i hit'
     have WC := GG.out.trans hC.out
     have d0 := WC.cell (fun h => h) c0
     have d1 := WC.cell (fun h => h) c1
     have d2 := WC.cell (fun h => h) c2
     have d3 := WC.cell (fun h => h) c3
     have d0' := WC.cell (fun h => h) c0'
     have d1' := WC.cell (fun h => h) c1'
     have d2' := WC.cell (fun h => h) c2'
     have d3' := WC.cell (fun h => h) c3'
     have BW := fun x (hx : X x) => Nat.lt_of_lt_of_le (HB.out x hx) WC.size
     have WD := (Chg.refl (fun _ => False) wr).drew
     have KI := hide (IH.out (f.toL[i]).kids (by have := HF.out; omega) hsl.1 hsl.2 (g.toL[i]).kids hsg.1 hsg.2 (f.toL[i]).kind (g.toL[i]).kind (f.toL[i]).word (g.toL[i]).word (f.toL[i]).at (g.toL[i]).at _ _ X wr.drew BW ((ti.chg WC (fun _ _ h => h)).chg WD (fun _ _ h => h)) ((ti'.chg WC (fun _ _ h => h)).chg WD (fun _ _ h => h)))
     have i1 : (0 : Int) ≤ (i : Int) := by omega
     have i2 : (i : Int) < (f.len : Int) := by omega
     have i3 : (i : Int) < (g.len : Int) := by have := E4.out; omega
     have LN := hide (show likeN false ((f.toL[i]).kind, (f.toL[i]).word, (f.toL[i]).at, (f.toL[i]).kids) ((g.toL[i]).kind, (g.toL[i]).word, (g.toL[i]).at, (g.toL[i]).kids) = likeN false f.toL[i] g.toL[i] from rfl)
     have HG := hide (fun (h : likeN false f.toL[i] g.toL[i] = false) => (show false = RR by
      cases hR : RR with
      | false => rfl
      | true => have := like_get (HR.out.trans hR) i hit hit'; rw [h] at this; exact absurd this (by decide)))
     have HT := hide (fun (h : likeN false f.toL[i] g.toL[i] = true) => show LikeTo false f g (i + 1) from fun j h1 h2 h3 => by
      by_cases e : j < i
      ·
       exact hM.out j h1 h2 e
      ·
       have : j = i := by omega
       subst this
       exact h)
     rw [LN.out] at KI
     clear hl hl' c0 c1 c2 c3 c0' c1' c2' c3' ti ti' hks hsl hsg WC BW WD LN hM
     dsimp only [Nd.kind, Nd.word, Nd.at, Nd.kids] at d0 d1 d2 d3 d0' d1' d2' d3' KI
     obtain ⟨L, hL⟩ : ∃ L, likeN false f.toL[i] g.toL[i] = L := ⟨_, rfl⟩
     rw [hL] at KI HG HT
     clear hL
     generalize (f.toL[i]).1 = k0 at *
     generalize (f.toL[i]).2.1 = k1 at *
     generalize (f.toL[i]).2.2.1 = k2 at *
     generalize (f.toL[i]).2.2.2 = k3 at *
     generalize (g.toL[i]).1 = m0 at *
     generalize (g.toL[i]).2.1 = m1 at *
     generalize (g.toL[i]).2.2.1 = m2 at *
     generalize (g.toL[i]).2.2.2 = m3 at *
     go_wp2_with fail
     refine wp_region_held_drew (S := (fun w' => w'.cell? ⟨P, 3, none⟩ = some (.slice (some ⟨b, off, none⟩) f.len cap) ∧ w'.cell? ⟨Q, 3, none⟩ = some (.slice (some ⟨b', off', none⟩) g.len cap') ∧ w'.cell? ⟨b, off + i * 4, none⟩ = some (.int .i64 k0) ∧ w'.cell? ⟨b, off + i * 4 + 1, none⟩ = some (.string k1) ∧ w'.cell? ⟨b, off + i * 4 + 2, none⟩ = some (.int .i64 k2) ∧ w'.cell? ⟨b, off + i * 4 + 3, none⟩ = some (.slice ka k3.len kc) ∧ w'.cell? ⟨b', off' + i * 4, none⟩ = some (.int .i64 m0) ∧ w'.cell? ⟨b', off' + i * 4 + 1, none⟩ = some (.string m1) ∧ w'.cell? ⟨b', off' + i * 4 + 2, none⟩ = some (.int .i64 m2) ∧ w'.cell? ⟨b', off' + i * 4 + 3, none⟩ = some (.slice ka' m3.len kc'))) (by kernel_rfl) (by go_keep) (fun hHeld => ?_)
     first
      | (refine tku 0 ?_)
      | (refine tkl 0 ?_ ?_ ?_
         rotate_left
         (intro w hSw
          (try dsimp only at hSw)
          (go_simp <;> with_reducible rfl)))
     try simp only [Act.put, puts]
     first
      | (refine tku 1 ?_)
      | (refine tkl 1 ?_ ?_ ?_
         rotate_left
         (intro w hSw
          (try dsimp only at hSw)
          (go_simp <;> with_reducible rfl)))
     try simp only [Act.put, puts]
     first
      | (refine tku 2 ?_)
      | (refine tkl 2 ?_ ?_ ?_
         rotate_left
         (intro w hSw
          (try dsimp only at hSw)
          (go_simp <;> with_reducible rfl)))
     try simp only [Act.put, puts]
     first
      | (refine tku 3 ?_)
      | (refine tkl 3 ?_ ?_ ?_
         rotate_left
         (intro w hSw
          (try dsimp only at hSw)
          (go_simp <;> with_reducible rfl)))
     try simp only [Act.put, puts]
     first
      | (refine tku 4 ?_)
      | (refine tkl 4 ?_ ?_ ?_
         rotate_left
         (intro w hSw
          (try dsimp only at hSw)
          (go_simp <;> with_reducible rfl)))
     try simp only [Act.put, puts]
     first
      | (refine tku 5 ?_)
      | (refine tkl 5 ?_ ?_ ?_
         rotate_left
         (intro w hSw
          (try dsimp only at hSw)
          (go_simp <;> with_reducible rfl)))
     try simp only [Act.put, puts]
     first
      | (refine tku 6 ?_)
      | (refine tkl 6 ?_ ?_ ?_
         rotate_left
         (intro w hSw
          (try dsimp only at hSw)
          (go_simp <;> with_reducible rfl)))
     try simp only [Act.put, puts]
     first
      | (refine tku 7 ?_)
      | (refine tkl 7 ?_ ?_ ?_
         rotate_left
         (intro w hSw
          (try dsimp only at hSw)
          (go_simp <;> with_reducible rfl)))
     try simp only [Act.put, puts]
     first
      | (refine tku 8 ?_)
      | (refine tkl 8 ?_ ?_ ?_
         rotate_left
         (intro w hSw
          (try dsimp only at hSw)
          (go_simp <;> with_reducible rfl)))
     try simp only [Act.put, puts]
     first
      | (refine tku 9 ?_)
      | (refine tkl 9 ?_ ?_ ?_
         rotate_left
         (intro w hSw
          (try dsimp only at hSw)
          (go_simp <;> with_reducible rfl)))
     try simp only [Act.put, puts]
     first
      | (refine tku 10 ?_)
      | (refine tkl 10 ?_ ?_ ?_
         rotate_left
         (intro w hSw
          (try dsimp only at hSw)
          (go_simp <;> with_reducible rfl)))
     try simp only [Act.put, puts]
     refine rd1 11 (fun K hK => ?_)
     go_simp
     refine KI.out.mono ?_
     rintro e w6 ⟨rfl, g6⟩
     have WG := (Chg.refl (fun _ => False) wr).drew.trans g6
     have x0 := WG.cell (fun h => h) p3
     have x1 := WG.cell (fun h => h) q3
     have x2 := WG.cell (fun h => h) d0
     have x3 := WG.cell (fun h => h) d1
     have x4 := WG.cell (fun h => h) d2
     have x5 := WG.cell (fun h => h) d3
     have x6 := WG.cell (fun h => h) d0'
     have x7 := WG.cell (fun h => h) d1'
     have x8 := WG.cell (fun h => h) d2'
     have x9 := WG.cell (fun h => h) d3'
     have C6 := hide (hC.out.trans WG)
     have G6 := hide (GG.out.trans C6.out)
     clear g6 WG
     try go_simp
     refine hK.out _ _ ⟨x0, x1, x2, x3, x4, x5, x6, x7, x8, x9⟩ (fun hHeld => ?_)
     clear hK K
     try simp only [Act.put, puts]
     first
      | (refine tku 12 ?_)
      | (refine tkl 12 ?_ ?_ ?_
         rotate_left
         (intro w hSw
          (try dsimp only at hSw)
          (go_simp <;> with_reducible rfl)))
     try simp only [Act.put, puts]
     refine wpAnyH_done (by kernel_rfl) ?_ _
     cases L
     ·
      have HG2 := hide (HG.out rfl)
      clear HT HG
      go_wp2_with fail
      go_ret
      exact ⟨by have h := HG2.out; subst h; rfl, G6.out⟩
     ·
      have F9 : Hid (LkInv w1 w6 false f g (i + 1)) := hide ⟨C6, hide (HT.out rfl)⟩
      clear HG HT
      go_wp2_with fail
      go_roundw
      case rel => exact ⟨i + 1, by omega, by go_num, F9⟩
      case measure => simp [intOf]; omega
    ·
     have hif : i = f.len := by omega
     have HX := hide (show RR = true from HR.out.symm.trans (like_mk E4.out (fun j h1 h2 => hM.out j h1 h2 (by omega))))
     have GX := hide (GG.out.trans hC.out)
     clear hM HV HV' IH
     have i2 : decide (i < f.len) = false := by simp [hlt]
     subst hif
     go_wp2_with fail
     go_ret
     exact ⟨by have h := HX.out; subst h; rfl, GX.out⟩
  ·
   have e4' : ((f.len : Int) != (g.len : Int)) = true := by simp; omega
   have HR := hide (show false = RR by
    cases hR : RR with
    | false => rfl
    | true => exact absurd (like_len (HR.out.trans hR)) e4)
   clear HV HV' IH
   go_wp2_with fail
   go_ret
   exact ⟨by have h := HR.out; subst h; rfl, GG.out⟩
 ·
  subst hp
  cases e3 : (a == a')
  ·
   have e3' : (a != a') = true := by simp only [bne, e3, Bool.not_false]
   have HR := hide (show false = RR by have := HR.out; rw [e1, e2, e3] at this; exact this)
   clear HV HV' IH
   go_wp2_with fail
   go_ret
   exact ⟨by have h := HR.out; subst h; rfl, GG.out⟩
  have e3' : (a != a') = false := by simp only [bne, e3, Bool.not_true]
  have HR := hide (show likeR true f g = RR by have := HR.out; rw [e1, e2, e3] at this; exact this)
  by_cases e4 : f.len = g.len
  ·
   have e4' : ((f.len : Int) != (g.len : Int)) = false := by rw [e4]; simp
   have E4 := hide e4
   clear e4
   go_upto_block 0 with fail
   clear p0 p1 p2 q0 q1 q2 e1 e2 e1' e2' e4'
   go_wp2_with fail
   go_loopw [7] (fun iv wr => ∃ (i : Nat), i ≤ f.len ∧ iv = .int .i64 i ∧ Hid (LkInv w1 wr true f g i)) (fun iv _ => f.len - (intOf iv).toNat)
   case atStart => exact ⟨0, Nat.zero_le _, rfl, hide ⟨hide (Chg.refl _ _), hide (fun j _ _ h => absurd h (Nat.not_lt_zero _))⟩⟩
   case round =>
    obtain ⟨i, hi, rfl, hIN⟩ := hrel
    obtain ⟨hC, hM⟩ := hIN.out
    clear hIN
    clear p3 q3
    have p3 : wr.cell? ⟨P, 3, none⟩ = some (.slice av f.len cap) := hC.out.cell (fun h => h) (blk_cell BP.out 3)
    have q3 : wr.cell? ⟨Q, 3, none⟩ = some (.slice av' g.len cap') := hC.out.cell (fun h => h) (blk_cell BQ.out 3)
    by_cases hlt : i < f.len
    ·
     have hit : i < f.toL.length := by omega
     have hit' : i < g.toL.length := by have := E4.out; omega
     obtain ⟨la, lc, hlv, hl⟩ := HV.out
     rcases hl with h0 | ⟨b, off, rfl, hg, hl⟩
     ·
      subst h0; exact absurd hlt (Nat.not_lt_zero _)
     injection hlv with e1 e2 e3
     subst e1 e3
     obtain ⟨la', lc', hlv', hl'⟩ := HV'.out
     rcases hl' with h0 | ⟨b', off', rfl, hg', hl'⟩
     ·
      subst h0; have := E4.out; simp only [Ns.len] at this; omega
     injection hlv' with e1 e2 e3
     subst e1 e3
     obtain ⟨c0, c1, c2, vi, c3, ti⟩ := lies_get hl i hit
     obtain ⟨ka, kc, rfl, _⟩ := id ti
     obtain ⟨c0', c1', c2', vi', c3', ti'⟩ := lies_get hl' i hit'
     obtain ⟨ka', kc', rfl, _⟩ := id ti'
     have hks := Ns.kid_size f i hit
     have hsl := slim_get SL.out i hit
     have hsg := slim_get SG.out i hit'
     have WC := GG.out.trans hC.out
     have d0 := WC.cell (fun h => h) c0
     have d1 := WC.cell (fun h => h) c1
     have d2 := WC.cell (fun h => h) c2
     have d3 := WC.cell (fun h => h) c3
     have d0' := WC.cell (fun h => h) c0'
     have d1' := WC.cell (fun h => h) c1'
     have d2' := WC.cell (fun h => h) c2'
     have d3' := WC.cell (fun h => h) c3'
     have BW := fun x (hx : X x) => Nat.lt_of_lt_of_le (HB.out x hx) WC.size
     have WD := (Chg.refl (fun _ => False) wr).drew
     have KI := hide (IH.out (f.toL[i]).kids (by have := HF.out; omega) hsl.1 hsl.2 (g.toL[i]).kids hsg.1 hsg.2 (f.toL[i]).kind (g.toL[i]).kind (f.toL[i]).word (g.toL[i]).word (f.toL[i]).at (g.toL[i]).at _ _ X wr.drew BW ((ti.chg WC (fun _ _ h => h)).chg WD (fun _ _ h => h)) ((ti'.chg WC (fun _ _ h => h)).chg WD (fun _ _ h => h)))
     have i1 : (0 : Int) ≤ (i : Int) := by omega
     have i2 : (i : Int) < (f.len : Int) := by omega
     have i3 : (i : Int) < (g.len : Int) := by have := E4.out; omega
     have LN := hide (show likeN true ((f.toL[i]).kind, (f.toL[i]).word, (f.toL[i]).at, (f.toL[i]).kids) ((g.toL[i]).kind, (g.toL[i]).word, (g.toL[i]).at, (g.toL[i]).kids) = likeN true f.toL[i] g.toL[i] from rfl)
     have HG := hide (fun (h : likeN true f.toL[i] g.toL[i] = false) => (show false = RR by
      cases hR : RR with
      | false => rfl
      | true => have := like_get (HR.out.trans hR) i hit hit'; rw [h] at this; exact absurd this (by decide)))
     have HT := hide (fun (h : likeN true f.toL[i] g.toL[i] = true) => show LikeTo true f g (i + 1) from fun j h1 h2 h3 => by
      by_cases e : j < i
      ·
       exact hM.out j h1 h2 e
      ·
       have : j = i := by omega
       subst this
       exact h)
     rw [LN.out] at KI
     clear hl hl' c0 c1 c2 c3 c0' c1' c2' c3' ti ti' hks hsl hsg WC BW WD LN hM
     dsimp only [Nd.kind, Nd.word, Nd.at, Nd.kids] at d0 d1 d2 d3 d0' d1' d2' d3' KI
     obtain ⟨L, hL⟩ : ∃ L, likeN true f.toL[i] g.toL[i] = L := ⟨_, rfl⟩
     rw [hL] at KI HG HT
     clear hL
     generalize (f.toL[i]).1 = k0 at *
     generalize (f.toL[i]).2.1 = k1 at *
     generalize (f.toL[i]).2.2.1 = k2 at *
     generalize (f.toL[i]).2.2.2 = k3 at *
     generalize (g.toL[i]).1 = m0 at *
     generalize (g.toL[i]).2.1 = m1 at *
     generalize (g.toL[i]).2.2.1 = m2 at *
     generalize (g.toL[i]).2.2.2 = m3 at *
     go_wp2_with fail
     refine wp_region_held_drew (S := (fun w' => w'.cell? ⟨P, 3, none⟩ = some (.slice (some ⟨b, off, none⟩) f.len cap) ∧ w'.cell? ⟨Q, 3, none⟩ = some (.slice (some ⟨b', off', none⟩) g.len cap') ∧ w'.cell? ⟨b, off + i * 4, none⟩ = some (.int .i64 k0) ∧ w'.cell? ⟨b, off + i * 4 + 1, none⟩ = some (.string k1) ∧ w'.cell? ⟨b, off + i * 4 + 2, none⟩ = some (.int .i64 k2) ∧ w'.cell? ⟨b, off + i * 4 + 3, none⟩ = some (.slice ka k3.len kc) ∧ w'.cell? ⟨b', off' + i * 4, none⟩ = some (.int .i64 m0) ∧ w'.cell? ⟨b', off' + i * 4 + 1, none⟩ = some (.string m1) ∧ w'.cell? ⟨b', off' + i * 4 + 2, none⟩ = some (.int .i64 m2) ∧ w'.cell? ⟨b', off' + i * 4 + 3, none⟩ = some (.slice ka' m3.len kc'))) (by kernel_rfl) (by go_keep) (fun hHeld => ?_)
     first
      | (refine tku 0 ?_)
      | (refine tkl 0 ?_ ?_ ?_
         rotate_left
         (intro w hSw
          (try dsimp only at hSw)
          (go_simp <;> with_reducible rfl)))
     try simp only [Act.put, puts]
     first
      | (refine tku 1 ?_)
      | (refine tkl 1 ?_ ?_ ?_
         rotate_left
         (intro w hSw
          (try dsimp only at hSw)
          (go_simp <;> with_reducible rfl)))
     try simp only [Act.put, puts]
     first
      | (refine tku 2 ?_)
      | (refine tkl 2 ?_ ?_ ?_
         rotate_left
         (intro w hSw
          (try dsimp only at hSw)
          (go_simp <;> with_reducible rfl)))
     try simp only [Act.put, puts]
     first
      | (refine tku 3 ?_)
      | (refine tkl 3 ?_ ?_ ?_
         rotate_left
         (intro w hSw
          (try dsimp only at hSw)
          (go_simp <;> with_reducible rfl)))
     try simp only [Act.put, puts]
     first
      | (refine tku 4 ?_)
      | (refine tkl 4 ?_ ?_ ?_
         rotate_left
         (intro w hSw
          (try dsimp only at hSw)
          (go_simp <;> with_reducible rfl)))
     try simp only [Act.put, puts]
     first
      | (refine tku 5 ?_)
      | (refine tkl 5 ?_ ?_ ?_
         rotate_left
         (intro w hSw
          (try dsimp only at hSw)
          (go_simp <;> with_reducible rfl)))
     try simp only [Act.put, puts]
     first
      | (refine tku 6 ?_)
      | (refine tkl 6 ?_ ?_ ?_
         rotate_left
         (intro w hSw
          (try dsimp only at hSw)
          (go_simp <;> with_reducible rfl)))
     try simp only [Act.put, puts]
     first
      | (refine tku 7 ?_)
      | (refine tkl 7 ?_ ?_ ?_
         rotate_left
         (intro w hSw
          (try dsimp only at hSw)
          (go_simp <;> with_reducible rfl)))
     try simp only [Act.put, puts]
     first
      | (refine tku 8 ?_)
      | (refine tkl 8 ?_ ?_ ?_
         rotate_left
         (intro w hSw
          (try dsimp only at hSw)
          (go_simp <;> with_reducible rfl)))
     try simp only [Act.put, puts]
     first
      | (refine tku 9 ?_)
      | (refine tkl 9 ?_ ?_ ?_
         rotate_left
         (intro w hSw
          (try dsimp only at hSw)
          (go_simp <;> with_reducible rfl)))
     try simp only [Act.put, puts]
     first
      | (refine tku 10 ?_)
      | (refine tkl 10 ?_ ?_ ?_
         rotate_left
         (intro w hSw
          (try dsimp only at hSw)
          (go_simp <;> with_reducible rfl)))
     try simp only [Act.put, puts]
     refine rd1 11 (fun K hK => ?_)
     go_simp
     refine KI.out.mono ?_
     rintro e w6 ⟨rfl, g6⟩
     have WG := (Chg.refl (fun _ => False) wr).drew.trans g6
     have x0 := WG.cell (fun h => h) p3
     have x1 := WG.cell (fun h => h) q3
     have x2 := WG.cell (fun h => h) d0
     have x3 := WG.cell (fun h => h) d1
     have x4 := WG.cell (fun h => h) d2
     have x5 := WG.cell (fun h => h) d3
     have x6 := WG.cell (fun h => h) d0'
     have x7 := WG.cell (fun h => h) d1'
     have x8 := WG.cell (fun h => h) d2'
     have x9 := WG.cell (fun h => h) d3'
     have C6 := hide (hC.out.trans WG)
     have G6 := hide (GG.out.trans C6.out)
     clear g6 WG
     try go_simp
     refine hK.out _ _ ⟨x0, x1, x2, x3, x4, x5, x6, x7, x8, x9⟩ (fun hHeld => ?_)
     clear hK K
     try simp only [Act.put, puts]
     first
      | (refine tku 12 ?_)
      | (refine tkl 12 ?_ ?_ ?_
         rotate_left
         (intro w hSw
          (try dsimp only at hSw)
          (go_simp <;> with_reducible rfl)))
     try simp only [Act.put, puts]
     refine wpAnyH_done (by kernel_rfl) ?_ _
     cases L
     ·
      have HG2 := hide (HG.out rfl)
      clear HT HG
      go_wp2_with fail
      go_ret
      exact ⟨by have h := HG2.out; subst h; rfl, G6.out⟩
     ·
      have F9 : Hid (LkInv w1 w6 true f g (i + 1)) := hide ⟨C6, hide (HT.out rfl)⟩
      clear HG HT
      go_wp2_with fail
      go_roundw
      case rel => exact ⟨i + 1, by omega, by go_num, F9⟩
      case measure => simp [intOf]; omega
    ·
     have hif : i = f.len := by omega
     have HX := hide (show RR = true from HR.out.symm.trans (like_mk E4.out (fun j h1 h2 => hM.out j h1 h2 (by omega))))
     have GX := hide (GG.out.trans hC.out)
     clear hM HV HV' IH
     have i2 : decide (i < f.len) = false := by simp [hlt]
     subst hif
     go_wp2_with fail
     go_ret
     exact ⟨by have h := HX.out; subst h; rfl, GX.out⟩
  ·
   have e4' : ((f.len : Int) != (g.len : Int)) = true := by simp; omega
   have HR := hide (show false = RR by
    cases hR : RR with
    | false => rfl
    | true => exact absurd (like_len (HR.out.trans hR)) e4)
   clear HV HV' IH
   go_wp2_with fail
   go_ret
   exact ⟨by have h := HR.out; subst h; rfl, GG.out⟩

theorem plike_all (p : Bool) (n : Nat) : ∀ (f : Ns), f.size ≤ n → f.len ≤ 1000000 → Slim f → ∀ (g : Ns), g.len ≤ 1000000 → Slim g → ∀ (k k' : Int) (s s' : ByteArray) (a a' : Int) (v v' : Value) (X : Nat → Prop) (w : World), (∀ x, X x → x < w.heap.size) → Ts w X v f → Ts w X v' g →
  Calls Try.prog 17 #[.agg #[.int .i64 k, .string s, .int .i64 a, v], .agg #[.int .i64 k', .string s', .int .i64 a', v'], .bool p] w fun e w' => e = .returned (.bool (likeN p (k, s, a, f) (k', s', a', g))) ∧ Chg (fun _ => False) w w' := by
 induction n with
 | zero => exact fun f hf => plike_step p 0 (fun g hg => absurd hg (Nat.not_lt_zero _)) f hf
 | succ n ih => exact fun f hf => plike_step p (n + 1) (fun g hg => ih g (by omega)) f hf

theorem plike_any (p : Bool) (n m : Nd) (hn : n.kids.len ≤ 1000000 ∧ Slim n.kids) (hm : m.kids.len ≤ 1000000 ∧ Slim m.kids) (v v' : Value) (X : Nat → Prop) (w : World) (hX : ∀ x, X x → x < w.heap.size) (hv : NV w X v n) (hv' : NV w X v' m) :
  Calls Try.prog 17 #[v, v', .bool p] w fun e w' => e = .returned (.bool (likeN p n m)) ∧ Chg (fun _ => False) w w' := by
 obtain ⟨a, c, rfl, h⟩ := hv
 obtain ⟨a', c', rfl, h'⟩ := hv'
 exact plike_all p n.kids.size n.kids (Nat.le_refl _) hn.1 hn.2 m.kids hm.1 hm.2 n.kind m.kind n.word m.word n.at m.at _ _ X w hX h h'
end Go.Proofs.Ytboeeaekhijboaa
