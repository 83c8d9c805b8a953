/- The program's Equal and Same. -/
import Derived.Test.YtboeeaekhijboaaPlikeItem
import Derived.Deep.CutBlock
namespace Go.Proofs.Ytboeeaekhijboaa
open Go.RowKit
set_option linter.unusedVariables false
set_option linter.unusedSimpArgs false

def EqC (f g : Ns) : Prop := ∀ (k k' : Int) (s s' : ByteArray) (a a' : Int) (v v' : Value) (X : Nat → Prop) (w : World), (∀ x, X x → x < w.heap.size) → Ts w X v f → Ts w X v' g →
    Calls Try.prog 24 #[.agg #[.int .i64 k, .string s, .int .i64 a, v], .agg #[.int .i64 k', .string s', .int .i64 a', v']] w fun e w' => e = .returned (.bool (likeN false (k, s, a, f) (k', s', a', g))) ∧ Chg (fun _ => False) w w'

set_option maxRecDepth 100000 in
set_option maxHeartbeats 32000000 in
/-- the rows' nodes one by one -/
theorem eqf_step (n : Nat) (ih : ∀ (f : Ns), f.size < n → f.len ≤ 1000000 → Slim f → ∀ (g : Ns), g.len ≤ 1000000 → Slim g → EqC f g)
    (f : Ns) (hf : f.size ≤ n) (hfl : f.len ≤ 1000000) (hsl : Slim f) (g : Ns) (hgl : g.len ≤ 1000000) (hsg : Slim g) (v v' : Value) (X : Nat → Prop) (w : World) (hB : ∀ x, X x → x < w.heap.size) (hv : Ts w X v f) (hv' : Ts w X v' g) :
    Calls Try.prog 46 #[v, v', .func (.func 24) #[] #[]] w fun e w' => e = .returned (.bool (likeR false f g)) ∧ Chg (fun _ => False) w w' := by
  have IH := hide ih
  have SL := hide hsl
  have SG := hide hsg
  obtain ⟨RR, hRR⟩ : ∃ RR, likeR false f g = RR := ⟨_, rfl⟩
  rw [hRR]
  have HR := hide hRR
  obtain ⟨av, cap, rfl, hx⟩ := id hv
  obtain ⟨av', cap', rfl, hx'⟩ := id hv'
  have HV := hide hv
  have HV' := hide hv'
  have HB := hide hB
  have htl := Ns.toL_len f
  have htl' := Ns.toL_len g
  have HF := hide hf
  clear hx hx' hv hv' ih hB hf hsl hsg hRR
  go_enter Try.func46, Try.ntmps46
  by_cases e4 : f.len = g.len
  · have e4' : ((f.len : Int) != (g.len : Int)) = false := by rw [e4]; simp
    have E4 := hide e4
    clear e4
    go_upto_block 0 with fail
    clear e4'
    go_wp2_with fail
    go_loopw [17] (fun iv wr => ∃ (i : Nat), i ≤ f.len ∧ iv = .int .i64 i ∧ Hid (LkInv w wr false f g i)) (fun iv _ => f.len - (intOf iv).toNat)
    case atStart => exact ⟨0, Nat.zero_le _, rfl, hide ⟨hide (Chg.refl _ _), hide (fun j _ _ h => absurd h (Nat.not_lt_zero _))⟩⟩
    case round =>
      obtain ⟨i, hi, rfl, hIN⟩ := hrel
      obtain ⟨hC, hM⟩ := hIN.out
      clear hIN
      by_cases hlt : i < f.len
      · have hit : i < f.toL.length := by omega
        have hit' : i < g.toL.length := by have := E4.out; omega
        obtain ⟨la, lc, hlv, hl⟩ := HV.out
        rcases hl with h0 | ⟨b, off, rfl, hg, hl⟩
        · subst h0; exact absurd hlt (Nat.not_lt_zero _)
        injection hlv with e1 e2 e3
        subst e1 e3
        obtain ⟨la', lc', hlv', hl'⟩ := HV'.out
        rcases hl' with h0 | ⟨b', off', rfl, hg', hl'⟩
        · subst h0; have := E4.out; simp only [Ns.len] at this; omega
        injection hlv' with e1 e2 e3
        subst e1 e3
        obtain ⟨c0, c1, c2, vi, c3, ti⟩ := lies_get hl i hit
        obtain ⟨ka, kc, rfl, _⟩ := id ti
        obtain ⟨c0', c1', c2', vi', c3', ti'⟩ := lies_get hl' i hit'
        obtain ⟨ka', kc', rfl, _⟩ := id ti'
        have hks := Ns.kid_size f i hit
        have hsl := slim_get SL.out i hit
        have hsg := slim_get SG.out i hit'
        have WC := hC.out
        have i1 : (0 : Int) ≤ (i : Int) := by omega
        have i2 : (i : Int) < (f.len : Int) := by omega
        have i3 : (i : Int) < (g.len : Int) := by have := E4.out; omega
        have TI := hide (ti.chg WC (fun _ _ h => h))
        have TI' := hide (ti'.chg WC (fun _ _ h => h))
        have d0 := WC.cell (fun h => h) c0
        have d1 := WC.cell (fun h => h) c1
        have d2 := WC.cell (fun h => h) c2
        have d3 := WC.cell (fun h => h) c3
        have d0' := WC.cell (fun h => h) c0'
        have d1' := WC.cell (fun h => h) c1'
        have d2' := WC.cell (fun h => h) c2'
        have d3' := WC.cell (fun h => h) c3'
        have BW := fun x (hx : X x) => Nat.lt_of_lt_of_le (HB.out x hx) WC.size
        have KI := hide (fun w' (gg : Chg (fun _ => False) wr w') => IH.out (f.toL[i]).kids (by have := HF.out; omega) hsl.1 hsl.2 (g.toL[i]).kids hsg.1 hsg.2 (f.toL[i]).kind (g.toL[i]).kind (f.toL[i]).word (g.toL[i]).word (f.toL[i]).at (g.toL[i]).at _ _ X w' (fun x hx => Nat.lt_of_lt_of_le (BW x hx) gg.size) (TI.out.chg gg (fun _ _ h => h)) (TI'.out.chg gg (fun _ _ h => h)))
        have LN := hide (show likeN false ((f.toL[i]).kind, (f.toL[i]).word, (f.toL[i]).at, (f.toL[i]).kids) ((g.toL[i]).kind, (g.toL[i]).word, (g.toL[i]).at, (g.toL[i]).kids) = likeN false f.toL[i] g.toL[i] from rfl)
        have HG := hide (fun (h : likeN false f.toL[i] g.toL[i] = false) => (show false = RR by
          cases hR : RR with
          | false => rfl
          | true => have := like_get (HR.out.trans hR) i hit hit'; rw [h] at this; exact absurd this (by decide)))
        have HT := hide (fun (h : likeN false f.toL[i] g.toL[i] = true) => show LikeTo false f g (i + 1) from fun j h1 h2 h3 => by
          by_cases e : j < i
          · exact hM.out j h1 h2 e
          · have : j = i := by omega
            subst this
            exact h)
        rw [LN.out] at KI
        clear hl hl' c0 c1 c2 c3 c0' c1' c2' c3' ti ti' hks hsl hsg WC BW LN hM TI TI'
        dsimp only [Nd.kind, Nd.word, Nd.at, Nd.kids] at d0 d1 d2 d3 d0' d1' d2' d3' KI
        obtain ⟨L, hL⟩ : ∃ L, likeN false f.toL[i] g.toL[i] = L := ⟨_, rfl⟩
        rw [hL] at KI HG HT
        clear hL
        generalize (f.toL[i]).1 = k0 at *
        generalize (f.toL[i]).2.1 = k1 at *
        generalize (f.toL[i]).2.2.1 = k2 at *
        generalize (f.toL[i]).2.2.2 = k3 at *
        generalize (g.toL[i]).1 = m0 at *
        generalize (g.toL[i]).2.1 = m1 at *
        generalize (g.toL[i]).2.2.1 = m2 at *
        generalize (g.toL[i]).2.2.2 = m3 at *
        have GA := al wr (.cells #[.int .i64 k0, .string k1, .int .i64 k2, .slice ka k3.len kc] 51)
        have NB := blk_new wr (.cells #[.int .i64 k0, .string k1, .int .i64 k2, .slice ka k3.len kc] 51)
        have GB := al (wr.alloc (.cells #[.int .i64 k0, .string k1, .int .i64 k2, .slice ka k3.len kc] 51)) (.cells #[.int .i64 m0, .string m1, .int .i64 m2, .slice ka' m3.len kc'] 51)
        have MB := blk_new (wr.alloc (.cells #[.int .i64 k0, .string k1, .int .i64 k2, .slice ka k3.len kc] 51)) (.cells #[.int .i64 m0, .string m1, .int .i64 m2, .slice ka' m3.len kc'] 51)
        have NB2 := GB.blk NB
        rw [al_sz] at MB
        have x0 := blk_cell NB2 0
        have x1 := blk_cell NB2 1
        have x2 := blk_cell NB2 2
        have x3 := blk_cell NB2 3
        have y0 := blk_cell MB 0
        have y1 := blk_cell MB 1
        have y2 := blk_cell MB 2
        have y3 := blk_cell MB 3
        have GG := GA.trans GB
        have z0 := GA.cell (fun h => h) d0'
        have z1 := GA.cell (fun h => h) d1'
        have z2 := GA.cell (fun h => h) d2'
        have z3 := GA.cell (fun h => h) d3'
        have KJ := hide (KI.out _ GG)
        have CA := hide (hC.out.trans GG)
        clear GA GB NB MB NB2 GG KI
        go_wp2_with fail
        refine KJ.out.mono ?_
        rintro e w6 ⟨rfl, g6⟩
        have C6 := hide (CA.out.trans g6)
        clear g6 KJ x0 x1 x2 x3 y0 y1 y2 y3 z0 z1 z2 z3
        cases L
        · have HG2 := hide (HG.out rfl)
          clear HT HG
          go_wp2_with fail
          go_ret
          exact ⟨by have h := HG2.out; subst h; rfl, C6.out⟩
        · have F9 : Hid (LkInv w w6 false f g (i + 1)) := hide ⟨C6, hide (HT.out rfl)⟩
          clear HG HT
          go_wp2_with fail
          go_roundw
          case rel => exact ⟨i + 1, by omega, by go_num, F9⟩
          case measure => simp [intOf]; omega
      · have hif : i = f.len := by omega
        have HX := hide (show RR = true from HR.out.symm.trans (like_mk E4.out (fun j h1 h2 => hM.out j h1 h2 (by omega))))
        have GX := hide hC.out
        clear hM HV HV' IH
        have i2 : decide (i < f.len) = false := by simp [hlt]
        subst hif
        go_wp2_with fail
        go_ret
        exact ⟨by have h := HX.out; subst h; rfl, GX.out⟩
  · have e4' : ((f.len : Int) != (g.len : Int)) = true := by simp; omega
    have HR := hide (show false = RR by
      cases hR : RR with
      | false => rfl
      | true => exact absurd (like_len (HR.out.trans hR)) e4)
    clear HV HV' IH
    go_wp2_with fail
    go_ret
    exact ⟨by have h := HR.out; subst h; rfl, Chg.refl _ _⟩

set_option maxRecDepth 100000 in
set_option maxHeartbeats 32000000 in
theorem equal_step (f g : Ns) (EF : ∀ (v v' : Value) (X : Nat → Prop) (w : World), (∀ x, X x → x < w.heap.size) → Ts w X v f → Ts w X v' g →
    Calls Try.prog 46 #[v, v', .func (.func 24) #[] #[]] w fun e w' => e = .returned (.bool (likeR false f g)) ∧ Chg (fun _ => False) w w') : EqC f g := by
  intro k k' s s' a a' v v' X w hB hv hv'
  obtain ⟨RR, hRR⟩ : ∃ RR, likeN false (k, s, a, f) (k', s', a', g) = RR := ⟨_, rfl⟩
  rw [hRR]
  have HR : Hid (((k == k') && ((s.toList == s'.toList) && (true && likeR false f g))) = RR) := hide hRR
  obtain ⟨av, cap, rfl, hx⟩ := id hv
  obtain ⟨av', cap', rfl, hx'⟩ := id hv'
  have G1 := al w (.cells #[.int .i64 k, .string s, .int .i64 a, .slice av f.len cap] 51)
  have G2 := al (w.alloc (.cells #[.int .i64 k, .string s, .int .i64 a, .slice av f.len cap] 51)) (.cells #[.int .i64 k', .string s', .int .i64 a', .slice av' g.len cap'] 51)
  have GG := hide (G1.trans G2)
  have CK := hide (EF _ _ X ((w.alloc (.cells #[.int .i64 k, .string s, .int .i64 a, .slice av f.len cap] 51)).alloc (.cells #[.int .i64 k', .string s', .int .i64 a', .slice av' g.len cap'] 51)) (fun x h => Nat.lt_of_lt_of_le (hB x h) GG.out.size) (hv.chg GG.out (fun _ _ h => h)) (hv'.chg GG.out (fun _ _ h => h)))
  clear hx hx' hv hv' hB G1 G2 hRR EF
  cases e1 : (k == k')
  · have HX : Hid (false = RR) := hide (by have := HR.out; rw [e1] at this; exact this)
    clear HR CK
    go_enter Try.func24, Try.ntmps24
    go_wp2_with fail
    go_ret
    exact ⟨by have h := HX.out; subst h; rfl, GG.out⟩
  · cases e2 : (s.toList == s'.toList)
    · have HX : Hid (false = RR) := hide (by have := HR.out; rw [e1, e2] at this; exact this)
      clear HR CK
      go_enter Try.func24, Try.ntmps24
      go_wp2_with fail
      go_ret
      exact ⟨by have h := HX.out; subst h; rfl, GG.out⟩
    · have HX : Hid (likeR false f g = RR) := hide (by have := HR.out; rw [e1, e2] at this; exact this)
      clear HR
      rw [HX.out] at CK
      go_enter Try.func24, Try.ntmps24
      go_wp2_with fail
      refine CK.out.mono ?_
      rintro e w6 ⟨rfl, g6⟩
      have C6 := hide (GG.out.trans g6)
      clear g6 CK
      go_wp2_with fail
      go_ret
      exact ⟨rfl, C6.out⟩

theorem equal_all (n : Nat) : ∀ (f : Ns), f.size ≤ n → f.len ≤ 1000000 → Slim f → ∀ (g : Ns), g.len ≤ 1000000 → Slim g → EqC f g := by
  induction n with
  | zero => exact fun f hf h1 h2 g h3 h4 => equal_step f g (fun v v' X w => eqf_step 0 (fun g hg => absurd hg (Nat.not_lt_zero _)) f hf h1 h2 g h3 h4 v v' X w)
  | succ n ih => exact fun f hf h1 h2 g h3 h4 => equal_step f g (fun v v' X w => eqf_step (n + 1) (fun g hg => ih g (by omega)) f hf h1 h2 g h3 h4 v v' X w)
theorem eqf_any (f g : Ns) (h1 : f.len ≤ 1000000) (h2 : Slim f) (h3 : g.len ≤ 1000000) (h4 : Slim g) (v v' : Value) (X : Nat → Prop) (w : World) (hB : ∀ x, X x → x < w.heap.size) (hv : Ts w X v f) (hv' : Ts w X v' g) :
    Calls Try.prog 46 #[v, v', .func (.func 24) #[] #[]] w fun e w' => e = .returned (.bool (likeR false f g)) ∧ Chg (fun _ => False) w w' :=
  eqf_step f.size (fun a ha h1 h2 => equal_all a.size a (Nat.le_refl _) h1 h2) f (Nat.le_refl _) h1 h2 g h3 h4 v v' X w hB hv hv'
theorem equal_any (n m : Nd) (hn : n.kids.len ≤ 1000000 ∧ Slim n.kids) (hm : m.kids.len ≤ 1000000 ∧ Slim m.kids) (v v' : Value) (X : Nat → Prop) (w : World) (hX : ∀ x, X x → x < w.heap.size) (hv : NV w X v n) (hv' : NV w X v' m) :
    Calls Try.prog 24 #[v, v'] w fun e w' => e = .returned (.bool (likeN false n m)) ∧ Chg (fun _ => False) w w' := by
  obtain ⟨a, c, rfl, h⟩ := hv
  obtain ⟨a', c', rfl, h'⟩ := hv'
  exact equal_all n.kids.size n.kids (Nat.le_refl _) hn.1 hn.2 m.kids hm.1 hm.2 n.kind m.kind n.word m.word n.at m.at _ _ X w hX h h'

set_option maxRecDepth 100000 in
set_option maxHeartbeats 32000000 in
theorem wordsEq_any (l l' : List ByteArray) (hl : l.length ≤ 1000000) (hl' : l'.length ≤ 1000000) (u u' : Value) (X : Nat → Prop) (w : World) (hu : Sw w X u l) (hu' : Sw w X u' l') :
    Calls Try.prog 47 #[u, u'] w fun e w' => e = .returned (.bool (wordsEq l l')) ∧ Chg (fun _ => False) w w' := by
  obtain ⟨RR, hRR⟩ : ∃ RR, wordsEq l l' = RR := ⟨_, rfl⟩
  rw [hRR]
  have HR := hide hRR
  obtain ⟨au, cu, rfl, hxu⟩ := id hu
  obtain ⟨au', cu', rfl, hxu'⟩ := id hu'
  have HU := hide hu
  have HU' := hide hu'
  clear hxu hxu' hu hu' hRR
  go_enter Try.func47, Try.ntmps47
  by_cases e4 : l.length = l'.length
  · have e4' : ((l.length : Int) != (l'.length : Int)) = false := by rw [e4]; simp
    have E4 : Hid (l.length = l'.length) := hide e4
    clear e4
    go_upto_block 0 with fail
    clear e4'
    go_wp2_with fail
    go_loopw [13] (fun iv wr => ∃ (i : Nat), i ≤ l.length ∧ iv = .int .i64 i ∧ Hid (WdInv w wr l l' i)) (fun iv _ => l.length - (intOf iv).toNat)
    case atStart => exact ⟨0, Nat.zero_le _, rfl, hide ⟨hide (Chg.refl _ _), hide (fun j _ _ h => absurd h (Nat.not_lt_zero _))⟩⟩
    case round =>
      obtain ⟨i, hi, rfl, hIN⟩ := hrel
      obtain ⟨hC, hM⟩ := hIN.out
      clear hIN
      by_cases hlt : i < l.length
      · have hlt' : i < l'.length := by have := E4.out; omega
        obtain ⟨la, lc, hlv, hl0⟩ := HU.out
        rcases hl0 with h0 | ⟨b, off, rfl, hg, hl0⟩
        · subst h0; exact absurd hlt (Nat.not_lt_zero _)
        injection hlv with e1 e2 e3
        subst e1 e3
        obtain ⟨la', lc', hlv', hl0'⟩ := HU'.out
        rcases hl0' with h0 | ⟨b', off', rfl, hg', hl0'⟩
        · subst h0; exact absurd hlt' (Nat.not_lt_zero _)
        injection hlv' with e1 e2 e3
        subst e1 e3
        have d0 := hC.out.cell (fun h => h) (hl0 i hlt)
        have d0' := hC.out.cell (fun h => h) (hl0' i hlt')
        have i1 : (0 : Int) ≤ (i : Int) := by omega
        have i2 : (i : Int) < (l.length : Int) := by omega
        have i3 : (i : Int) < (l'.length : Int) := by omega
        obtain ⟨L, hL⟩ : ∃ L, (l[i].toList == l'[i].toList) = L := ⟨_, rfl⟩
        have HG := hide (fun (h : L = false) => (show false = RR by
          cases hR : RR with
          | false => rfl
          | true =>
            have := wordsEq_get (HR.out.trans hR) i hlt hlt'
            rw [hL, h] at this; exact absurd this (by decide)))
        have HT := hide (fun (h : L = true) => show WordsTo l l' (i + 1) from fun j h1 h2 h3 => by
          by_cases e : j < i
          · exact hM.out j h1 h2 e
          · have : j = i := by omega
            subst this
            exact hL.trans h)
        clear hl0 hl0' hM
        have eL' : (l[i].toList == l'[i].toList) = L := hL
        clear hL
        generalize l[i] = k0 at *
        generalize l'[i] = m0 at *
        go_wp2_with fail
        refine wp_region_held_drew (S := (fun w' => w'.cell? ⟨b, off + i, none⟩ = some (.string k0) ∧ w'.cell? ⟨b', off' + i, none⟩ = some (.string m0))) (by kernel_rfl) (by go_keep) (fun hHeld => ?_)
        first
          | (refine wpAnyH_take (i := 0) (v := undef) rfl (by kernel_rfl) (by kernel_rfl) (by kernel_rfl) (fun _ _ _ h => h) (Or.inr ⟨by rfl, rfl⟩) (by assumption) ?_)
          | (refine wpAnyH_take (i := 0) (v := ?_) rfl (by kernel_rfl) (by kernel_rfl) (by kernel_rfl) (fun _ _ _ h => h) (Or.inl ⟨by rfl, ?_⟩) (by assumption) ?_
             rotate_left
             (intro w hSw
              (try dsimp only at hSw)
              (go_simp <;> with_reducible rfl)))
        try simp only [Act.put, List.getElem_toArray, List.getElem_cons_zero, List.getElem_cons_succ, List.setIfInBounds_toArray, List.set_cons_zero, List.set_cons_succ]
        first
          | (refine wpAnyH_take (i := 1) (v := undef) rfl (by kernel_rfl) (by kernel_rfl) (by kernel_rfl) (fun _ _ _ h => h) (Or.inr ⟨by rfl, rfl⟩) (by assumption) ?_)
          | (refine wpAnyH_take (i := 1) (v := ?_) rfl (by kernel_rfl) (by kernel_rfl) (by kernel_rfl) (fun _ _ _ h => h) (Or.inl ⟨by rfl, ?_⟩) (by assumption) ?_
             rotate_left
             (intro w hSw
              (try dsimp only at hSw)
              (go_simp <;> with_reducible rfl)))
        try simp only [Act.put, List.getElem_toArray, List.getElem_cons_zero, List.getElem_cons_succ, List.setIfInBounds_toArray, List.set_cons_zero, List.set_cons_succ]
        first
          | (refine wpAnyH_take (i := 2) (v := undef) rfl (by kernel_rfl) (by kernel_rfl) (by kernel_rfl) (fun _ _ _ h => h) (Or.inr ⟨by rfl, rfl⟩) (by assumption) ?_)
          | (refine wpAnyH_take (i := 2) (v := ?_) rfl (by kernel_rfl) (by kernel_rfl) (by kernel_rfl) (fun _ _ _ h => h) (Or.inl ⟨by rfl, ?_⟩) (by assumption) ?_
             rotate_left
             (intro w hSw
              (try dsimp only at hSw)
              (go_simp <;> with_reducible rfl)))
        try simp only [Act.put, List.getElem_toArray, List.getElem_cons_zero, List.getElem_cons_succ, List.setIfInBounds_toArray, List.set_cons_zero, List.set_cons_succ]
        first
          | (refine wpAnyH_take (i := 3) (v := undef) rfl (by kernel_rfl) (by kernel_rfl) (by kernel_rfl) (fun _ _ _ h => h) (Or.inr ⟨by rfl, rfl⟩) (by assumption) ?_)
          | (refine wpAnyH_take (i := 3) (v := ?_) rfl (by kernel_rfl) (by kernel_rfl) (by kernel_rfl) (fun _ _ _ h => h) (Or.inl ⟨by rfl, ?_⟩) (by assumption) ?_
             rotate_left
             (intro w hSw
              (try dsimp only at hSw)
              (go_simp <;> with_reducible rfl)))
        try simp only [Act.put, List.getElem_toArray, List.getElem_cons_zero, List.getElem_cons_succ, List.setIfInBounds_toArray, List.set_cons_zero, List.set_cons_succ]
        first
          | (refine wpAnyH_take (i := 4) (v := undef) rfl (by kernel_rfl) (by kernel_rfl) (by kernel_rfl) (fun _ _ _ h => h) (Or.inr ⟨by rfl, rfl⟩) (by assumption) ?_)
          | (refine wpAnyH_take (i := 4) (v := ?_) rfl (by kernel_rfl) (by kernel_rfl) (by kernel_rfl) (fun _ _ _ h => h) (Or.inl ⟨by rfl, ?_⟩) (by assumption) ?_
             rotate_left
             (intro w hSw
              (try dsimp only at hSw)
              (go_simp <;> with_reducible rfl)))
        try simp only [Act.put, List.getElem_toArray, List.getElem_cons_zero, List.getElem_cons_succ, List.setIfInBounds_toArray, List.set_cons_zero, List.set_cons_succ]
        first
          | (refine wpAnyH_take (i := 5) (v := undef) rfl (by kernel_rfl) (by kernel_rfl) (by kernel_rfl) (fun _ _ _ h => h) (Or.inr ⟨by rfl, rfl⟩) (by assumption) ?_)
          | (refine wpAnyH_take (i := 5) (v := ?_) rfl (by kernel_rfl) (by kernel_rfl) (by kernel_rfl) (fun _ _ _ h => h) (Or.inl ⟨by rfl, ?_⟩) (by assumption) ?_
             rotate_left
             (intro w hSw
              (try dsimp only at hSw)
              (go_simp <;> with_reducible rfl)))
        try simp only [Act.put, List.getElem_toArray, List.getElem_cons_zero, List.getElem_cons_succ, List.setIfInBounds_toArray, List.set_cons_zero, List.set_cons_succ]
        first
          | (refine wpAnyH_take (i := 6) (v := undef) rfl (by kernel_rfl) (by kernel_rfl) (by kernel_rfl) (fun _ _ _ h => h) (Or.inr ⟨by rfl, rfl⟩) (by assumption) ?_)
          | (refine wpAnyH_take (i := 6) (v := ?_) rfl (by kernel_rfl) (by kernel_rfl) (by kernel_rfl) (fun _ _ _ h => h) (Or.inl ⟨by rfl, ?_⟩) (by assumption) ?_
             rotate_left
             (intro w hSw
              (try dsimp only at hSw)
              (go_simp <;> with_reducible rfl)))
        try simp only [Act.put, List.getElem_toArray, List.getElem_cons_zero, List.getElem_cons_succ, List.setIfInBounds_toArray, List.set_cons_zero, List.set_cons_succ]
        first
          | (refine wpAnyH_take (i := 7) (v := undef) rfl (by kernel_rfl) (by kernel_rfl) (by kernel_rfl) (fun _ _ _ h => h) (Or.inr ⟨by rfl, rfl⟩) (by assumption) ?_)
          | (refine wpAnyH_take (i := 7) (v := ?_) rfl (by kernel_rfl) (by kernel_rfl) (by kernel_rfl) (fun _ _ _ h => h) (Or.inl ⟨by rfl, ?_⟩) (by assumption) ?_
             rotate_left
             (intro w hSw
              (try dsimp only at hSw)
              (go_simp <;> with_reducible rfl)))
        try simp only [Act.put, List.getElem_toArray, List.getElem_cons_zero, List.getElem_cons_succ, List.setIfInBounds_toArray, List.set_cons_zero, List.set_cons_succ]
        first
          | (refine wpAnyH_take (i := 8) (v := undef) rfl (by kernel_rfl) (by kernel_rfl) (by kernel_rfl) (fun _ _ _ h => h) (Or.inr ⟨by rfl, rfl⟩) (by assumption) ?_)
          | (refine wpAnyH_take (i := 8) (v := ?_) rfl (by kernel_rfl) (by kernel_rfl) (by kernel_rfl) (fun _ _ _ h => h) (Or.inl ⟨by rfl, ?_⟩) (by assumption) ?_
             rotate_left
             (intro w hSw
              (try dsimp only at hSw)
              (go_simp <;> with_reducible rfl)))
        try simp only [Act.put, List.getElem_toArray, List.getElem_cons_zero, List.getElem_cons_succ, List.setIfInBounds_toArray, List.set_cons_zero, List.set_cons_succ]
        refine wpAnyH_done (by kernel_rfl) ?_ _
        cases L
        · have HG2 := hide (HG.out rfl)
          clear HT HG
          go_wp2_with fail
          go_ret
          exact ⟨by have h := HG2.out; subst h; rfl, hC.out.drew⟩
        · have F9 : Hid (WdInv w wr.drew l l' (i + 1)) := hide ⟨hide hC.out.drew, hide (HT.out rfl)⟩
          clear HG HT
          go_wp2_with fail
          go_roundw
          case rel => exact ⟨i + 1, by omega, by go_num, F9⟩
          case measure => simp [intOf]; omega
      · have hif : i = l.length := by omega
        have HX : Hid (true = RR) := hide (by rw [← HR.out]; exact (wordsEq_mk E4.out (fun j h1 h2 => hM.out j h1 h2 (by omega))).symm)
        have i2 : decide (i < l.length) = false := by simp [hlt]
        clear hM HU HU'
        subst hif
        go_wp2_with fail
        go_ret
        exact ⟨by have h := HX.out; subst h; rfl, hC.out⟩
  · have e4' : ((l.length : Int) != (l'.length : Int)) = true := by simp; omega
    have HX := hide (show false = RR by
      cases hR : RR with
      | false => rfl
      | true => exact absurd (wordsEq_len (HR.out.trans hR)) e4)
    clear HU HU'
    go_wp2_with fail
    go_ret
    exact ⟨by have h := HX.out; subst h; rfl, Chg.refl _ _⟩

set_option maxRecDepth 100000 in
set_option maxHeartbeats 32000000 in
theorem same_item (k k' : Int) (l l' : List ByteArray) (f f' : Ns) (nm nm' at0 at0' : Int) (hx : Ok2 (k, l, f, nm, at0)) (hy : Ok2 (k', l', f', nm', at0')) (u u' v v' : Value) (X : Nat → Prop) (w : World) (hB : ∀ x, X x → x < w.heap.size)
    (hu : Sw w X u l) (hu' : Sw w X u' l') (hv : Ts w X v f) (hv' : Ts w X v' f') :
    Calls Try.prog 27 #[.agg #[.int .i64 k, u, v, .int .i64 nm, .int .i64 at0], .agg #[.int .i64 k', u', v', .int .i64 nm', .int .i64 at0']] w fun e w' => e = .returned (.bool (likeI false (k, l, f, nm, at0) (k', l', f', nm', at0'))) ∧ Chg (fun _ => False) w w' := by
  obtain ⟨RR, hRR⟩ : ∃ RR, likeI false (k, l, f, nm, at0) (k', l', f', nm', at0') = RR := ⟨_, rfl⟩
  rw [hRR]
  have HR : Hid (((k == k') && ((nm == nm') && (true && (wordsEq l l' && likeR false f f')))) = RR) := hide hRR
  obtain ⟨au, cu, rfl, _⟩ := id hu
  obtain ⟨au', cu', rfl, _⟩ := id hu'
  obtain ⟨av, cap, rfl, _⟩ := id hv
  obtain ⟨av', cap', rfl, _⟩ := id hv'
  have G1 := al w (.cells #[.int .i64 k, .slice au l.length cu, .slice av f.len cap, .int .i64 nm, .int .i64 at0] 46)
  have G2 := al (w.alloc (.cells #[.int .i64 k, .slice au l.length cu, .slice av f.len cap, .int .i64 nm, .int .i64 at0] 46)) (.cells #[.int .i64 k', .slice au' l'.length cu', .slice av' f'.len cap', .int .i64 nm', .int .i64 at0'] 46)
  have GG := hide (G1.trans G2)
  have b1 := blk_new w (.cells #[.int .i64 k, .slice au l.length cu, .slice av f.len cap, .int .i64 nm, .int .i64 at0] 46)
  have BP := hide (G2.blk b1)
  have BQ := blk_new (w.alloc (.cells #[.int .i64 k, .slice au l.length cu, .slice av f.len cap, .int .i64 nm, .int .i64 at0] 46)) (.cells #[.int .i64 k', .slice au' l'.length cu', .slice av' f'.len cap', .int .i64 nm', .int .i64 at0'] 46)
  rw [al_sz] at BQ
  have BQ := hide BQ
  have WK := hide (wordsEq_any l l' hx.1 hy.1 _ _ X ((w.alloc (.cells #[.int .i64 k, .slice au l.length cu, .slice av f.len cap, .int .i64 nm, .int .i64 at0] 46)).alloc (.cells #[.int .i64 k', .slice au' l'.length cu', .slice av' f'.len cap', .int .i64 nm', .int .i64 at0'] 46)) (hu.chg GG.out (fun _ _ h => h)) (hu'.chg GG.out (fun _ _ h => h)))
  have EK := hide (fun w2 (g : Chg (fun _ => False) ((w.alloc (.cells #[.int .i64 k, .slice au l.length cu, .slice av f.len cap, .int .i64 nm, .int .i64 at0] 46)).alloc (.cells #[.int .i64 k', .slice au' l'.length cu', .slice av' f'.len cap', .int .i64 nm', .int .i64 at0'] 46)) w2) => eqf_any f f' hx.2.1 hx.2.2 hy.2.1 hy.2.2 _ _ X w2 (fun x h => Nat.lt_of_lt_of_le (hB x h) (GG.out.trans g).size) (hv.chg (GG.out.trans g) (fun _ _ h => h)) (hv'.chg (GG.out.trans g) (fun _ _ h => h)))
  clear hu hu' hv hv' hB G1 G2 hRR b1 hx hy
  go_enter Try.func27, Try.ntmps27
  cases e1 : (k == k')
  · have HX : Hid (false = RR) := hide (by have := HR.out; rw [e1] at this; exact this)
    clear HR WK EK BP BQ
    go_wp2_with fail
    go_ret
    exact ⟨by have h := HX.out; subst h; rfl, GG.out⟩
  · cases e2 : (nm == nm')
    · have HX : Hid (false = RR) := hide (by have := HR.out; rw [e1, e2] at this; exact this)
      clear HR WK EK BP BQ
      go_wp2_with fail
      go_ret
      exact ⟨by have h := HX.out; subst h; rfl, GG.out⟩
    · have HR : Hid ((wordsEq l l' && likeR false f f') = RR) := hide (by have := HR.out; rw [e1, e2] at this; exact this)
      go_wp2_with fail
      generalize ((w.alloc (.cells #[.int .i64 k, .slice au l.length cu, .slice av f.len cap, .int .i64 nm, .int .i64 at0] 46)).alloc (.cells #[.int .i64 k', .slice au' l'.length cu', .slice av' f'.len cap', .int .i64 nm', .int .i64 at0'] 46)) = w1 at *
      refine WK.out.mono ?_
      rintro e w6 ⟨rfl, g6⟩
      have C6 := hide (GG.out.trans g6)
      obtain ⟨W, hW⟩ : ∃ W, wordsEq l l' = W := ⟨_, rfl⟩
      have p2 : w6.cell? ⟨w.heap.size, 2, none⟩ = some (.slice av f.len cap) := g6.cell (fun h => h) (blk_cell BP.out 2)
      have q2 : w6.cell? ⟨w.heap.size + 1, 2, none⟩ = some (.slice av' f'.len cap') := g6.cell (fun h => h) (blk_cell BQ.out 2)
      have EJ := hide (EK.out w6 g6)
      have HR : Hid ((W && likeR false f f') = RR) := hide (by have := HR.out; rw [hW] at this; exact this)
      rw [hW]
      clear hW g6 WK EK BP BQ
      cases W
      · have HX : Hid (false = RR) := hide (by have := HR.out; rw [Bool.false_and] at this; exact this)
        clear HR EJ
        go_wp2_with fail
        go_ret
        exact ⟨by have h := HX.out; subst h; rfl, C6.out⟩
      · have HX : Hid (likeR false f f' = RR) := hide (by have := HR.out; rw [Bool.true_and] at this; exact this)
        rw [HX.out] at EJ
        clear HR
        go_wp2_with fail
        refine EJ.out.mono ?_
        rintro e w7 ⟨rfl, g7⟩
        have C7 := hide (C6.out.trans g7)
        clear g7 EJ p2 q2
        go_wp2_with fail
        go_ret
        exact ⟨rfl, C7.out⟩
end Go.Proofs.Ytboeeaekhijboaa
