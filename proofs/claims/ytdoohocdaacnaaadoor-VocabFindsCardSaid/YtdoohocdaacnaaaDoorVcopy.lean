/- vocab.copied: a table as new memory. -/
import Derived.Test.YtdoohocdaacnaaaDoorClone
import Derived.Deep.AppendLies
namespace Go.Proofs.YtdoohocdaacnaaaDoor
open Go.RowKit Go.Maps
set_option linter.unusedVariables false
set_option linter.unusedSimpArgs false

theorem info32 : (Tryd.prog.info? 32).map (fun i => (i.zero, i.size, i.bytes)) = some (some (.agg #[.string ⟨#[]⟩, .slice none 0 0, .int .i64 0]), 3, 48) := by kernel_rfl

abbrev Cv := ByteArray × Value × Int
def cellsC (us : List Cv) : List Value := us.flatMap fun p => [.string p.1, p.2.1, .int .i64 p.2.2]
theorem cellsC_cons (p : Cv) (r : List Cv) : cellsC (p :: r) = [.string p.1, p.2.1, .int .i64 p.2.2] ++ cellsC r := rfl
theorem cellsC_len (l : List Cv) : (cellsC l).length = l.length * 3 := by
  induction l with
  | nil => rfl
  | cons p r ih => rw [cellsC_cons, List.length_append, ih]; simp; omega
theorem cellsC_app (l r : List Cv) : cellsC (l ++ r) = cellsC l ++ cellsC r := by simp [cellsC]
theorem cellsC_get (l : List Cv) (i : Nat) (h : i < l.length) : (cellsC l)[i * 3]? = some (.string l[i].1) ∧ (cellsC l)[i * 3 + 1]? = some l[i].2.1 ∧ (cellsC l)[i * 3 + 2]? = some (.int .i64 l[i].2.2) := by
  induction l generalizing i with
  | nil => simp at h
  | cons p r ih =>
    cases i with
    | zero => rw [cellsC_cons]; simp
    | succ i =>
      obtain ⟨a, b, c⟩ := ih i (by simpa using h)
      have l2 : ([.string p.1, p.2.1, .int .i64 p.2.2] : List Value).length = 3 := rfl
      rw [cellsC_cons, List.getElem?_append_right (by rw [l2]; omega), List.getElem?_append_right (by rw [l2]; omega), List.getElem?_append_right (by rw [l2]; omega), l2]
      rw [show (i + 1) * 3 - 3 = i * 3 by omega, show (i + 1) * 3 + 1 - 3 = i * 3 + 1 by omega, show (i + 1) * 3 + 2 - 3 = i * 3 + 2 by omega]
      simpa using ⟨a, b, c⟩
/-- An own row of constants. -/
def CAcc (w : World) (base : Nat) (v : Value) (us : List Cv) : Prop := w.ownsRow base 32 3 v us.length (cellsC us)
theorem cacc_snoc {w : World} {base : Nat} {v : Value} {us : List Cv} {s : ByteArray} {x : Value} {b : Int} (h : w.ownsRow base 32 3 v (us.length + 1) (cellsC us ++ [.string s, x, .int .i64 b])) : CAcc w base v (us ++ [(s, x, b)]) := by
  unfold CAcc
  rw [List.length_append, cellsC_app]
  exact h
/-- What is copied so far: not in the row itself. -/
def Same2 (w : World) (B : Nat) (u : Value) (cs : List Cn) (us : List Cv) : Prop :=
  us.length ≤ cs.length ∧ ∀ j (h1 : j < cs.length) (h2 : j < us.length), (cs[j]).1 = (us[j]).1 ∧ (cs[j]).2.2 = (us[j]).2.2 ∧ Ts w (fun x => B ≤ x ∧ x < w.heap.size ∧ u.ownBlock ≠ some x) (us[j]).2.1 (cs[j]).2.1
theorem Same2.nil (w : World) (B : Nat) (u : Value) (cs : List Cn) : Same2 w B u cs [] := ⟨Nat.zero_le _, fun j h1 h2 => absurd h2 (Nat.not_lt_zero _)⟩
theorem Same2.chg {w w' : World} {B : Nat} {u : Value} {cs : List Cn} {us : List Cv} (h : Same2 w B u cs us) {S : Nat → Prop} (g : Chg S w w') (hn : ∀ x, B ≤ x → x < w.heap.size → u.ownBlock ≠ some x → ¬ S x) : Same2 w' B u cs us :=
  ⟨h.1, fun j h1 h2 => ⟨(h.2 j h1 h2).1, (h.2 j h1 h2).2.1, ((h.2 j h1 h2).2.2.chg g (fun x hx => hn x hx.1 hx.2.1 hx.2.2)).up (fun x hx => ⟨hx.1, Nat.lt_of_lt_of_le hx.2.1 g.size, hx.2.2⟩)⟩⟩
theorem Same2.grown {w w' : World} {B : Nat} {u u' : Value} {cs : List Cn} {us : List Cv} (h : Same2 w B u cs us) (hg : w.grownBy w' u.ownBlock) (hu : u'.ownBlock = u.ownBlock ∨ u'.ownBlock = some w.heap.size) : Same2 w' B u' cs us :=
  ⟨h.1, fun j h1 h2 => ⟨(h.2 j h1 h2).1, (h.2 j h1 h2).2.1, ((h.2 j h1 h2).2.2.chg ((Chg.refl (fun x => u.ownBlock = some x) w).grown hg (fun r e => Or.inl e)) (fun x hx e => hx.2.2 e)).up (fun x hx => ⟨hx.1, Nat.lt_of_lt_of_le hx.2.1 hg.size, fun e => by
    rcases hu with hu | hu
    · rw [hu] at e; exact hx.2.2 e
    · rw [hu] at e; have := Option.some.inj e; omega⟩)⟩⟩
theorem Same2.snoc {w : World} {B : Nat} {u : Value} {cs : List Cn} {us : List Cv} (h : Same2 w B u cs us) {i : Nat} (hi : i < cs.length) (hl : us.length = i) {s : ByteArray} {v : Value} {b : Int} (hs : (cs[i]).1 = s) (hb : (cs[i]).2.2 = b) (hv : Ts w (fun x => B ≤ x ∧ x < w.heap.size ∧ u.ownBlock ≠ some x) v (cs[i]).2.1) : Same2 w B u cs (us ++ [(s, v, b)]) := by
  refine ⟨by rw [List.length_append, hl]; exact hi, fun j h1 h2 => ?_⟩
  by_cases e : j < us.length
  · rw [List.getElem_append_left e]; exact h.2 j h1 e
  · have : j = i := by rw [List.length_append, List.length_singleton] at h2; omega
    subst this
    subst hl
    simp only [List.getElem_append_right (Nat.le_refl _), Nat.sub_self, List.getElem_cons_zero]
    exact ⟨hs, hb, hv⟩
/-- An own row whose types lie is a row of constants. -/
theorem cacc_cns {w : World} {base : Nat} {v : Value} {us : List Cv} (h : CAcc w base v us) {X : Nat → Prop} (hX : ∀ r, v.ownBlock = some r → X r) {cs : List Cn} (hsz : ∀ c ∈ cs, c.1.size ≤ maxLen ∧ c.2.1.size ≤ 10000) (hl : cs.length = us.length)
    (he : ∀ i (h1 : i < cs.length) (h2 : i < us.length), (cs[i]).1 = (us[i]).1 ∧ (cs[i]).2.2 = (us[i]).2.2 ∧ Ts w X (us[i]).2.1 (cs[i]).2.1) : Cns w X v cs := by
  refine ⟨hsz, ?_⟩
  obtain ⟨h1, h2⟩ := id h
  rcases h2 with ⟨rfl, h3⟩ | ⟨g, cap, cur, rfl, h3⟩
  · exact ⟨none, 0, by rw [hl, h3], Or.inl (List.eq_nil_of_length_eq_zero (by omega))⟩
  · refine ⟨_, cap, by rw [hl], Or.inr ⟨g, 0, rfl, hX g rfl, fun i hi => ?_⟩⟩
    obtain ⟨a, b, c⟩ := cellsC_get us i (by omega)
    have hc := World.ownsRow.cells h (g := g) rfl
    have ha := hc _ _ a
    have hb := hc _ _ b
    have hcc := hc _ _ c
    rw [add_at, Nat.zero_add] at ha hb hcc
    obtain ⟨e1, e2, e3⟩ := he i hi (by omega)
    rw [Nat.zero_add, e1, e2]
    exact ⟨ha, ⟨_, hb, e3⟩, hcc⟩

/-- what the loop keeps -/
def VInv (w1 wr : World) (O bo : Nat) (bv : Value) (cs : List Cn) (i : Nat) : Prop :=
  ∃ (u : Value) (us : List Cv), Hid (wr.heap[O]? = some (.cells #[bv, u] 26)) ∧ Hid (CAcc wr bo u us) ∧ Hid (us.length = i) ∧ Hid (Same2 wr bo u cs us) ∧ Hid (bo ≤ wr.heap.size) ∧ Hid (Chg (fun x => x = O) w1 wr)

set_option maxRecDepth 100000 in
set_option maxHeartbeats 32000000 in
theorem vcopied_any (bs : List ByteArray) (cs : List Cn) (hbl : bs.length ≤ 1000) (hcl : cs.length ≤ 1000) (bv cv : Value) (X : Nat → Prop) (w : World) (hX : ∀ x, X x → x < w.heap.size) (hb : Strs w X bv bs) (hc : Cns w X cv cs) :
    Calls Tryd.prog 34 #[.agg #[bv, cv]] w fun e w' => (∃ bv' cv', e = .returned (.agg #[bv', cv']) ∧ Strs w' (fun x => w.heap.size ≤ x ∧ x < w'.heap.size) bv' bs ∧ Cns w' (fun x => w.heap.size ≤ x ∧ x < w'.heap.size) cv' cs) ∧ Chg (fun _ => False) w w' := by
  obtain ⟨i0, hi0, hz0, hz1, hz2⟩ := info_parts info32
  obtain ⟨hbs, ba, bc, rfl, _⟩ := id hb
  obtain ⟨hcs, ca, cc, rfl, _⟩ := id hc
  have G1 := al w (.cells #[.slice ba bs.length bc, .slice ca cs.length cc] 26)
  have G2 := al (w.alloc (.cells #[.slice ba bs.length bc, .slice ca cs.length cc] 26)) (.cells #[.slice none 0 0, .slice none 0 0] 26)
  have b0 := G2.blk (fun h => h) (blk_new w (.cells #[.slice ba bs.length bc, .slice ca cs.length cc] 26))
  have b1 := blk_new (w.alloc (.cells #[.slice ba bs.length bc, .slice ca cs.length cc] 26)) (.cells #[.slice none 0 0, .slice none 0 0] 26)
  rw [al_sz] at b1
  have GG := G1.trans G2
  have HBV := hide (hb.chg GG (fun _ _ h => h))
  have HCV := hide (hc.chg GG (fun _ _ h => h))
  have sz2 : ((w.alloc (.cells #[.slice ba bs.length bc, .slice ca cs.length cc] 26)).alloc (.cells #[.slice none 0 0, .slice none 0 0] 26)).heap.size = w.heap.size + 2 := by rw [al_sz, al_sz]
  have HG := hide GG
  have HX := hide hX
  have SZ := hide sz2
  have HCS := hide hcs
  have HBL := hide hbl
  have HCL := hide hcl
  clear G1 G2 hb hc GG sz2 hX hbs hcs hbl hcl
  go_enter Tryd.func34, Tryd.ntmps34
  go_wp2_with fail
  generalize ((w.alloc (.cells #[.slice ba bs.length bc, .slice ca cs.length cc] 26)).alloc (.cells #[.slice none 0 0, .slice none 0 0] 26)) = w0 at *
  obtain ⟨W0, hW0⟩ : ∃ W0, w.heap.size = W0 := ⟨_, rfl⟩
  rw [hW0] at b0 b1 SZ ⊢
  have HW := hide hW0
  have cl := hide (clone_any (.slice ba bs.length bc) bs (by have := HBL.out; omega) X w0 HBV.out)
  have BR0 := hide b1
  have BB0 := hide b0
  clear hW0 b0 b1
  refine cl.out.mono ?_
  rintro e wc ⟨⟨bv', rfl, sb⟩, gc⟩
  have BRc := gc.blk (fun h => h) BR0.out
  have BBc := gc.blk (fun h => h) BB0.out
  have HCc := HCV.out.chg gc (fun _ _ h => h)
  have G3 := al wc (.cells #[bv', .slice none 0 0] 26)
  have BO := hide (blk_new wc (.cells #[bv', .slice none 0 0] 26))
  have BR := hide (G3.blk (fun h => h) BRc)
  have HCX := hide (HCc.chg G3 (fun _ _ h => h))
  have SB := hide ((sb.chg G3 (fun _ _ h => h)))
  have HS0 := hide (And.intro (al_sz wc (.cells #[bv', .slice none 0 0] 26)) (Nat.le_trans (Nat.le_of_eq SZ.out.symm) gc.size))
  have GW := hide ((HG.out.trans gc).trans G3)
  obtain ⟨_, ba', bc', rfl, _⟩ := id sb
  have k1 := blk_cell (G3.blk (fun h => h) BBc) 1
  simp only [List.getElem?_toArray, List.getElem?_cons_zero, List.getElem?_cons_succ] at k1
  clear cl gc sb BRc BBc HCc G3 HCV HBV BR0 BB0
  go_wp2_with fail
  obtain ⟨O, hO⟩ : ∃ O, wc.heap.size = O := ⟨_, rfl⟩
  rw [hO] at BO HS0 ⊢
  generalize hw1 : wc.alloc (.cells #[.slice ba' bs.length bc', .slice none 0 0] 26) = w1 at *
  obtain ⟨bo, hbo⟩ : ∃ bo, w1.heap.size = bo := ⟨_, rfl⟩
  have HS := hide hbo
  have HO : Hid (O < bo ∧ W0 + 1 < O ∧ w.heap.size = W0) := hide (by have h1 := HS0.out; have h2 := HW.out; have h3 := hbo; refine ⟨by omega, by omega, h2⟩)
  have HOW : Hid (wc.heap.size = O) := hide hO
  have GWS : Hid (O ≤ w1.heap.size) := hide (by have := HO.out; omega)
  clear hw1 hO hbo HS0
  go_loopw [13] (fun iv wr => ∃ i : Nat, i ≤ cs.length ∧ iv = .int .i64 i ∧ Hid (VInv w1 wr O bo (.slice ba' bs.length bc') cs i)) (fun iv _ => cs.length - (intOf iv).toNat)
  case atStart => exact ⟨0, Nat.zero_le _, rfl, _, [], BO, ⟨rfl, Or.inl ⟨rfl, rfl⟩⟩, rfl, Same2.nil _ _ _ _, Nat.le_of_eq HS.out.symm, Chg.refl _ _⟩
  case round =>
    clear BO
    obtain ⟨i, hi, rfl, hIN⟩ := hrel
    obtain ⟨u, us, hT, hA, hL, hM, hZ, hC⟩ := hIN.out
    clear hIN
    by_cases hlt : i < cs.length
    · have nO : ∀ x, X x → ¬ x = O := fun x hx e => by have := HX.out x hx; have := HO.out; omega
      obtain ⟨hsz, la, lc, hlv, hl⟩ := HCX.out.chg hC.out nO
      rcases hl with h0 | ⟨g, off, rfl, hg, hl⟩
      · rw [h0] at hlt; exact absurd hlt (Nat.not_lt_zero _)
      injection hlv with e1 e2 e3
      subst e1
      clear e2 e3
      obtain ⟨d0, ⟨vi, d1, ti⟩, d2⟩ := hl i hlt
      obtain ⟨ka, kc, rfl, _⟩ := id ti
      have hsz0 := hsz _ (List.getElem_mem hlt)
      have i1 : (0 : Int) ≤ (i : Int) := by omega
      have i2 : (i : Int) < (cs.length : Int) := by omega
      have b5 := blk_new wr (.cells #[.string cs[i].1, .slice ka cs[i].2.1.len kc, .int .i64 cs[i].2.2] 32)
      have G5 := al wr (.cells #[.string cs[i].1, .slice ka cs[i].2.1.len kc, .int .i64 cs[i].2.2] 32)
      have T5 := G5.blk (fun h => h) hT.out
      have A5 := hide (own_chg (show wr.ownsRow bo 32 3 u us.length (cellsC us) from hA.out) G5 (fun x hx h => h))
      have M5 := hide (hM.out.chg G5 (fun _ _ _ _ h => h))
      have C5 := hide (hC.out.trans G5.none)
      have Z5 := hide (Nat.le_trans hZ.out G5.size)
      have ti5 := hide (ti.chg G5 (fun _ _ h => h))
      have BW := hide (fun x (hx : X x) => Nat.lt_of_lt_of_le (HX.out x hx) (Nat.le_trans GW.out.size (Nat.le_trans hC.out.size G5.size)))
      have RL := hide (fun r (e : u.ownBlock = some r) => World.ownsRow.lt (show wr.ownsRow bo 32 3 u us.length (cellsC us) from hA.out) r e)
      have SA := hide (al_size wr (.cells #[.string cs[i].1, .slice ka cs[i].2.1.len kc, .int .i64 cs[i].2.2] 32))
      have SN := hide (fun (w' : World) (v' : Value) (h : Same2 w' bo u cs us) (hv' : Ts w' (fun x => bo ≤ x ∧ x < w'.heap.size ∧ u.ownBlock ≠ some x) v' cs[i].2.1) => h.snoc hlt hL.out rfl rfl hv')
      have LO : Hid (¬ wr.heap.size = O) := hide (fun e => by have := HO.out; have := hZ.out; omega)
      have hus : us.length ≤ 1000 := by have := hL.out; have := HCL.out; omega
      have HUL := hide hL.out
      have SK := hide hsz0.2
      have hclb := HCL.out
      clear hl hsz hsz0 ti hg G5 hT hA hL hM hZ hC nO
      generalize cs[i] = c at *
      obtain ⟨nm, kk, kb⟩ := c
      dsimp only at d0 d1 d2 b5 T5 A5 M5 C5 Z5 ti5 BW SA SN SK
      go_wp2_with fail
      generalize wr.alloc (.cells #[.string nm, .slice ka kk.len kc, .int .i64 kb] 32) = w5 at *
      have y0 := blk_cell b5 0
      have y1 := blk_cell b5 1
      have y2 := blk_cell b5 2
      have zO := blk_cell T5 1
      simp only [List.getElem?_toArray, List.getElem?_cons_zero, List.getElem?_cons_succ] at y0 y1 y2 zO
      have HT5 := hide T5
      clear b5 T5 d0 d1 d2
      generalize wr.heap.size = A at *
      have ar := hide (arrow_any kk .nil (by have := SK.out; omega) (by simp [Fs.size]) (.slice ka kk.len kc) (.slice none 0 0) kb X w5.drew BW.out (ti5.out.chg ((Chg.refl (fun _ => False) w5).drew) (fun _ _ h => h)) (Ts.nil _ _))
      rw [Fs.nil_app] at ar
      refine wp_region_held_drew (S := (fun w' => w'.cell? ⟨A, 0, none⟩ = some (.string nm) ∧ w'.cell? ⟨A, 1, none⟩ = some (.slice ka kk.len kc) ∧ w'.cell? ⟨A, 2, none⟩ = some (.int .i64 kb))) (by kernel_rfl) (by go_keep) (fun hHeld => ?_)
      first
        | (refine wpAnyH_take (i := 0) (v := undef) rfl (by kernel_rfl) (by kernel_rfl) (by kernel_rfl) (fun _ _ _ h => h) (Or.inr ⟨by rfl, rfl⟩) (by assumption) ?_)
        | (refine wpAnyH_take (i := 0) (v := ?_) rfl (by kernel_rfl) (by kernel_rfl) (by kernel_rfl) (fun _ _ _ h => h) (Or.inl ⟨by rfl, ?_⟩) (by assumption) ?_
           rotate_left
           (intro w hSw
            (try dsimp only at hSw)
            (go_simp <;> with_reducible rfl)))
      try simp only [Act.put, List.getElem_toArray, List.getElem_cons_zero, List.getElem_cons_succ, List.setIfInBounds_toArray, List.set_cons_zero, List.set_cons_succ]
      first
        | (refine wpAnyH_take (i := 2) (v := undef) rfl (by kernel_rfl) (by kernel_rfl) (by kernel_rfl) (fun _ _ _ h => h) (Or.inr ⟨by rfl, rfl⟩) (by assumption) ?_)
        | (refine wpAnyH_take (i := 2) (v := ?_) rfl (by kernel_rfl) (by kernel_rfl) (by kernel_rfl) (fun _ _ _ h => h) (Or.inl ⟨by rfl, ?_⟩) (by assumption) ?_
           rotate_left
           (intro w hSw
            (try dsimp only at hSw)
            (go_simp <;> with_reducible rfl)))
      try simp only [Act.put, List.getElem_toArray, List.getElem_cons_zero, List.getElem_cons_succ, List.setIfInBounds_toArray, List.set_cons_zero, List.set_cons_succ]
      first
        | (refine wpAnyH_take (i := 3) (v := undef) rfl (by kernel_rfl) (by kernel_rfl) (by kernel_rfl) (fun _ _ _ h => h) (Or.inr ⟨by rfl, rfl⟩) (by assumption) ?_)
        | (refine wpAnyH_take (i := 3) (v := ?_) rfl (by kernel_rfl) (by kernel_rfl) (by kernel_rfl) (fun _ _ _ h => h) (Or.inl ⟨by rfl, ?_⟩) (by assumption) ?_
           rotate_left
           (intro w hSw
            (try dsimp only at hSw)
            (go_simp <;> with_reducible rfl)))
      try simp only [Act.put, List.getElem_toArray, List.getElem_cons_zero, List.getElem_cons_succ, List.setIfInBounds_toArray, List.set_cons_zero, List.set_cons_succ]
      first
        | (refine wpAnyH_take (i := 4) (v := undef) rfl (by kernel_rfl) (by kernel_rfl) (by kernel_rfl) (fun _ _ _ h => h) (Or.inr ⟨by rfl, rfl⟩) (by assumption) ?_)
        | (refine wpAnyH_take (i := 4) (v := ?_) rfl (by kernel_rfl) (by kernel_rfl) (by kernel_rfl) (fun _ _ _ h => h) (Or.inl ⟨by rfl, ?_⟩) (by assumption) ?_
           rotate_left
           (intro w hSw
            (try dsimp only at hSw)
            (go_simp <;> with_reducible rfl)))
      try simp only [Act.put, List.getElem_toArray, List.getElem_cons_zero, List.getElem_cons_succ, List.setIfInBounds_toArray, List.set_cons_zero, List.set_cons_succ]
      first
        | (refine wpAnyH_take (i := 5) (v := undef) rfl (by kernel_rfl) (by kernel_rfl) (by kernel_rfl) (fun _ _ _ h => h) (Or.inr ⟨by rfl, rfl⟩) (by assumption) ?_)
        | (refine wpAnyH_take (i := 5) (v := ?_) rfl (by kernel_rfl) (by kernel_rfl) (by kernel_rfl) (fun _ _ _ h => h) (Or.inl ⟨by rfl, ?_⟩) (by assumption) ?_
           rotate_left
           (intro w hSw
            (try dsimp only at hSw)
            (go_simp <;> with_reducible rfl)))
      try simp only [Act.put, List.getElem_toArray, List.getElem_cons_zero, List.getElem_cons_succ, List.setIfInBounds_toArray, List.set_cons_zero, List.set_cons_succ]
      refine wpAnyH_ready (rs := [1, 6]) (by kernel_rfl) (by simp) ?_
      refine AllReadyH.cons (i := 1) (o := _) rfl (fun K hK => ?_) ?_
      · go_simp
        refine hK.out _ _ ⟨y0, y1, y2⟩ (fun hHeld => ?_)
        clear hK K
        try simp only [Act.put, List.getElem_toArray, List.getElem_cons_zero, List.getElem_cons_succ, List.setIfInBounds_toArray, List.set_cons_zero, List.set_cons_succ]
        refine wpAnyH_ready (rs := [6]) (by kernel_rfl) (by simp) ?_
        refine AllReadyH.cons (i := 6) (o := _) rfl (fun K hK => ?_) ?_
        rotate_left
        · exact AllReadyH.nil
        go_simp
        refine ar.out.mono ?_
        rintro e w6 ⟨⟨v', rfl, t6⟩, g6'⟩
        obtain ⟨va, vc, rfl, _⟩ := id t6
        have g6 := (Chg.refl (fun _ => False) w5).drew.trans g6'
        have y06 := g6.cell (fun h => h) y0
        have y16 := g6.cell (fun h => h) y1
        have y26 := g6.cell (fun h => h) y2
        have zO6 := g6.cell (fun h => h) zO
        have G7 := al w6 (.cells #[.string nm, .slice va kk.len vc, .int .i64 kb] 32)
        have y07 := G7.cell (fun h => h) y06
        have y17 := G7.cell (fun h => h) y16
        have y27 := G7.cell (fun h => h) y26
        have zO7 := G7.cell (fun h => h) zO6
        have HT7 := hide (G7.blk (fun h => h) (g6.blk (fun h => h) HT5.out))
        have A7 := hide (own_chg (own_chg A5.out g6 (fun x hx h => h)) G7 (fun x hx h => h))
        have M7 := (M5.out.chg g6 (fun _ _ _ _ h => h)).chg G7 (fun _ _ _ _ h => h)
        have C7 := hide ((C5.out.trans g6.none).trans G7.none)
        have T7 := (t6.chg G7 (fun _ _ h => h)).up (Y := fun x => bo ≤ x ∧ x < (w6.alloc (.cells #[.string nm, .slice va kk.len vc, .int .i64 kb] 32)).heap.size ∧ u.ownBlock ≠ some x) (fun x hx => ⟨Nat.le_trans Z5.out hx.1, Nat.lt_of_lt_of_le hx.2 G7.size, fun e => by have h1 := (RL.out x e).2; have h2 := SA.out; have h3 : w5.heap.size ≤ x := hx.1; omega⟩)
        have N7 := hide (SN.out _ _ M7 T7)
        have Z7 := hide (Nat.le_trans Z5.out (Nat.le_trans g6.size G7.size))
        have NB := hide (World.news_of_block (cs := #[.string nm, .slice va kk.len vc, .int .i64 kb]) (t := 32) (fr := (0, 0)) (heap_alloc_new w6 _))
        clear t6 g6 g6' G7 M7 T7
        go_simp
        refine hK.out _ _ ⟨y06, y16, y26⟩ (fun hHeld => ?_)
        clear hK K
        try simp only [Act.put, List.getElem_toArray, List.getElem_cons_zero, List.getElem_cons_succ, List.setIfInBounds_toArray, List.set_cons_zero, List.set_cons_succ]
        first
          | (refine wpAnyH_take (i := 7) (v := undef) rfl (by kernel_rfl) (by kernel_rfl) (by kernel_rfl) (fun _ _ _ h => h) (Or.inr ⟨by rfl, rfl⟩) (by assumption) ?_)
          | (refine wpAnyH_take (i := 7) (v := ?_) rfl (by kernel_rfl) (by kernel_rfl) (by kernel_rfl) (fun _ _ _ h => h) (Or.inl ⟨by rfl, ?_⟩) (by assumption) ?_
             rotate_left
             (intro w hSw
              (try dsimp only at hSw)
              (go_simp <;> with_reducible rfl)))
        try simp only [Act.put, List.getElem_toArray, List.getElem_cons_zero, List.getElem_cons_succ, List.setIfInBounds_toArray, List.set_cons_zero, List.set_cons_succ]
        refine wpAnyH_ready (rs := [8]) (by kernel_rfl) (by simp) ?_
        refine AllReadyH.cons (i := 8) (o := _) rfl (fun K hK => ?_) ?_
        rotate_left
        · exact AllReadyH.nil
        go_simp
        refine hK.out _ _ ⟨y07, y17, y27⟩ (fun hHeld => ?_)
        clear hK K
        try simp only [Act.put, List.getElem_toArray, List.getElem_cons_zero, List.getElem_cons_succ, List.setIfInBounds_toArray, List.set_cons_zero, List.set_cons_succ]
        refine wpAnyH_ready (rs := [9]) (by kernel_rfl) (by simp) ?_
        refine AllReadyH.cons (i := 9) (o := _) rfl (fun K hK => ?_) ?_
        rotate_left
        · exact AllReadyH.nil
        refine step_append_lies _ (by rfl) _ _ _ (by rfl) bo 32 i0 (.agg #[.string ⟨#[]⟩, .slice none 0 0, .int .i64 0]) 3 48 Tryd.underlying24 hi0 hz0 hz1 hz2 rfl (by omega) _ us.length (cellsC us) (by rfl) A7.out ⟨w6.heap.size, 0, none⟩ 1 1 [.string nm, .slice va kk.len vc, .int .i64 kb] (by rfl) (by rfl) NB.out (by simp [Value.oneCell']) (by omega) (by simp [maxLen]; omega) (by omega) Z7.out (w6.heap.size + 1) (by simp) ?_
        intro gg cap2 w8 hown hgrow hgat hglt
        have GR := (Chg.refl (fun x => u.ownBlock = some x) (w6.alloc (.cells #[.string nm, .slice va kk.len vc, .int .i64 kb] 32))).grown hgrow (fun r e => Or.inl e)
        have nA : ¬ u.ownBlock = some A := fun e => by have := (RL.out A e).2; omega
        have nO : ¬ u.ownBlock = some O := fun e => by have := (RL.out O e).1; have := HO.out; omega
        have T8 := GR.blk nO HT7.out
        have zO8 := blk_cell T8 1
        have fO8 := blk_free T8 1
        simp only [List.getElem?_toArray, List.getElem?_cons_zero, List.getElem?_cons_succ] at zO8
        have y08 := GR.cell nA y07
        have y18 := GR.cell nA y17
        have y28 := GR.cell nA y27
        have M8 := N7.out.grown hgrow (u' := .slice (some ⟨gg, 0, none⟩) (us.length + 1) cap2) (by rcases hgat with h | h; exact Or.inl (by rw [h]; rfl); exact Or.inr (by rw [h, al_sz]; rfl))
        have G9 := Chg.set w8 O 1 (.slice (some ⟨gg, 0, none⟩) (us.length + 1) cap2)
        have T9 : Hid ((w8.setCell ⟨O, 1, none⟩ (.slice (some ⟨gg, 0, none⟩) (us.length + 1) cap2)).heap[O]? = some (.cells #[.slice ba' bs.length bc', .slice (some ⟨gg, 0, none⟩) (us.length + 1) cap2] 26)) := hide (blk_set T8 1 (.slice (some ⟨gg, 0, none⟩) (us.length + 1) cap2))
        have A9 := hide (cacc_snoc (own_chg hown G9 (fun x hx e => by have := HO.out; omega)))
        have M9 := hide (M8.chg G9 (fun x hx _ _ e => by have := HO.out; omega))
        have Z9 := hide (Nat.le_trans Z7.out (Nat.le_trans GR.size G9.size))
        have C9 : Hid (Chg (fun x => x = O) w1 (w8.setCell ⟨O, 1, none⟩ (.slice (some ⟨gg, 0, none⟩) (us.length + 1) cap2))) := hide (by
          have h1 : Chg (fun x => x = O ∨ bo ≤ x) w1 _ := ((C7.out.mono (fun x _ h => Or.inl h)).trans (GR.mono (fun x _ h => Or.inr (RL.out x h).1))).trans (G9.mono (fun x _ h => Or.inl h))
          exact h1.mono (fun x hx h => by have := HS.out; omega))
        have y09 := G9.cell LO.out y08
        have y19 := G9.cell LO.out y18
        have y29 := G9.cell LO.out y28
        have HL9 : Hid ((us ++ [(nm, (Value.slice va kk.len vc), kb)]).length = i + 1) := hide (by rw [List.length_append, HUL.out]; rfl)
        have F9 : Hid (VInv w1 (w8.setCell ⟨O, 1, none⟩ (.slice (some ⟨gg, 0, none⟩) (us.length + 1) cap2)) O bo (.slice ba' bs.length bc') cs (i + 1)) := hide ⟨_, us ++ [(nm, .slice va kk.len vc, kb)], T9, A9, HL9, M9, Z9, C9⟩
        clear GR T8 M8 G9 hown hgrow hgat nA nO T9 A9 HL9 M9 Z9 C9
        refine hK.out _ _ ⟨y08, y18, y28⟩ (fun hHeld => ?_)
        clear hK K
        try simp only [Act.put, List.getElem_toArray, List.getElem_cons_zero, List.getElem_cons_succ, List.setIfInBounds_toArray, List.set_cons_zero, List.set_cons_succ]
        first
          | (refine wpAnyH_take (i := 10) (v := undef) rfl (by kernel_rfl) (by kernel_rfl) (by kernel_rfl) (fun _ _ _ h => h) (Or.inr ⟨by rfl, rfl⟩) (by assumption) ?_)
          | (refine wpAnyH_take (i := 10) (v := ?_) rfl (by kernel_rfl) (by kernel_rfl) (by kernel_rfl) (fun _ _ _ h => h) (Or.inl ⟨by rfl, ?_⟩) (by assumption) ?_
             rotate_left
             (intro w hSw
              (try dsimp only at hSw)
              (go_simp <;> with_reducible rfl)))
        try simp only [Act.put, List.getElem_toArray, List.getElem_cons_zero, List.getElem_cons_succ, List.setIfInBounds_toArray, List.set_cons_zero, List.set_cons_succ]
        refine wpAnyH_ready (rs := [11]) (by kernel_rfl) (by simp) ?_
        refine AllReadyH.cons (i := 11) (o := _) rfl (fun K hK => ?_) ?_
        rotate_left
        · exact AllReadyH.nil
        go_simp
        refine hK.out _ _ ⟨y09, y19, y29⟩ (fun hHeld => ?_)
        clear hK K
        try simp only [Act.put, List.getElem_toArray, List.getElem_cons_zero, List.getElem_cons_succ, List.setIfInBounds_toArray, List.set_cons_zero, List.set_cons_succ]
        refine wpAnyH_done (by kernel_rfl) ?_ _
        go_wp2_with fail
        go_roundw
        case rel => exact ⟨i + 1, by omega, by go_num, F9⟩
        case measure => simp [intOf]; omega
      refine AllReadyH.cons (i := 6) (o := _) rfl (fun K hK => ?_) ?_
      rotate_left
      · exact AllReadyH.nil
      go_simp
      refine ar.out.mono ?_
      rintro e w6 ⟨⟨v', rfl, t6⟩, g6'⟩
      obtain ⟨va, vc, rfl, _⟩ := id t6
      have g6 := (Chg.refl (fun _ => False) w5).drew.trans g6'
      have y06 := g6.cell (fun h => h) y0
      have y16 := g6.cell (fun h => h) y1
      have y26 := g6.cell (fun h => h) y2
      have zO6 := g6.cell (fun h => h) zO
      have G7 := al w6 (.cells #[.string nm, .slice va kk.len vc, .int .i64 kb] 32)
      have y07 := G7.cell (fun h => h) y06
      have y17 := G7.cell (fun h => h) y16
      have y27 := G7.cell (fun h => h) y26
      have zO7 := G7.cell (fun h => h) zO6
      have HT7 := hide (G7.blk (fun h => h) (g6.blk (fun h => h) HT5.out))
      have A7 := hide (own_chg (own_chg A5.out g6 (fun x hx h => h)) G7 (fun x hx h => h))
      have M7 := (M5.out.chg g6 (fun _ _ _ _ h => h)).chg G7 (fun _ _ _ _ h => h)
      have C7 := hide ((C5.out.trans g6.none).trans G7.none)
      have T7 := (t6.chg G7 (fun _ _ h => h)).up (Y := fun x => bo ≤ x ∧ x < (w6.alloc (.cells #[.string nm, .slice va kk.len vc, .int .i64 kb] 32)).heap.size ∧ u.ownBlock ≠ some x) (fun x hx => ⟨Nat.le_trans Z5.out hx.1, Nat.lt_of_lt_of_le hx.2 G7.size, fun e => by have h1 := (RL.out x e).2; have h2 := SA.out; have h3 : w5.heap.size ≤ x := hx.1; omega⟩)
      have N7 := hide (SN.out _ _ M7 T7)
      have Z7 := hide (Nat.le_trans Z5.out (Nat.le_trans g6.size G7.size))
      have NB := hide (World.news_of_block (cs := #[.string nm, .slice va kk.len vc, .int .i64 kb]) (t := 32) (fr := (0, 0)) (heap_alloc_new w6 _))
      clear t6 g6 g6' G7 M7 T7
      go_simp
      refine hK.out _ _ ⟨y06, y16, y26⟩ (fun hHeld => ?_)
      clear hK K
      try simp only [Act.put, List.getElem_toArray, List.getElem_cons_zero, List.getElem_cons_succ, List.setIfInBounds_toArray, List.set_cons_zero, List.set_cons_succ]
      first
        | (refine wpAnyH_take (i := 7) (v := undef) rfl (by kernel_rfl) (by kernel_rfl) (by kernel_rfl) (fun _ _ _ h => h) (Or.inr ⟨by rfl, rfl⟩) (by assumption) ?_)
        | (refine wpAnyH_take (i := 7) (v := ?_) rfl (by kernel_rfl) (by kernel_rfl) (by kernel_rfl) (fun _ _ _ h => h) (Or.inl ⟨by rfl, ?_⟩) (by assumption) ?_
           rotate_left
           (intro w hSw
            (try dsimp only at hSw)
            (go_simp <;> with_reducible rfl)))
      try simp only [Act.put, List.getElem_toArray, List.getElem_cons_zero, List.getElem_cons_succ, List.setIfInBounds_toArray, List.set_cons_zero, List.set_cons_succ]
      refine wpAnyH_ready (rs := [1, 8]) (by kernel_rfl) (by simp) ?_
      refine AllReadyH.cons (i := 1) (o := _) rfl (fun K hK => ?_) ?_
      · go_simp
        refine hK.out _ _ ⟨y06, y16, y26⟩ (fun hHeld => ?_)
        clear hK K
        try simp only [Act.put, List.getElem_toArray, List.getElem_cons_zero, List.getElem_cons_succ, List.setIfInBounds_toArray, List.set_cons_zero, List.set_cons_succ]
        refine wpAnyH_ready (rs := [8]) (by kernel_rfl) (by simp) ?_
        refine AllReadyH.cons (i := 8) (o := _) rfl (fun K hK => ?_) ?_
        rotate_left
        · exact AllReadyH.nil
        go_simp
        refine hK.out _ _ ⟨y07, y17, y27⟩ (fun hHeld => ?_)
        clear hK K
        try simp only [Act.put, List.getElem_toArray, List.getElem_cons_zero, List.getElem_cons_succ, List.setIfInBounds_toArray, List.set_cons_zero, List.set_cons_succ]
        refine wpAnyH_ready (rs := [9]) (by kernel_rfl) (by simp) ?_
        refine AllReadyH.cons (i := 9) (o := _) rfl (fun K hK => ?_) ?_
        rotate_left
        · exact AllReadyH.nil
        refine step_append_lies _ (by rfl) _ _ _ (by rfl) bo 32 i0 (.agg #[.string ⟨#[]⟩, .slice none 0 0, .int .i64 0]) 3 48 Tryd.underlying24 hi0 hz0 hz1 hz2 rfl (by omega) _ us.length (cellsC us) (by rfl) A7.out ⟨w6.heap.size, 0, none⟩ 1 1 [.string nm, .slice va kk.len vc, .int .i64 kb] (by rfl) (by rfl) NB.out (by simp [Value.oneCell']) (by omega) (by simp [maxLen]; omega) (by omega) Z7.out (w6.heap.size + 1) (by simp) ?_
        intro gg cap2 w8 hown hgrow hgat hglt
        have GR := (Chg.refl (fun x => u.ownBlock = some x) (w6.alloc (.cells #[.string nm, .slice va kk.len vc, .int .i64 kb] 32))).grown hgrow (fun r e => Or.inl e)
        have nA : ¬ u.ownBlock = some A := fun e => by have := (RL.out A e).2; omega
        have nO : ¬ u.ownBlock = some O := fun e => by have := (RL.out O e).1; have := HO.out; omega
        have T8 := GR.blk nO HT7.out
        have zO8 := blk_cell T8 1
        have fO8 := blk_free T8 1
        simp only [List.getElem?_toArray, List.getElem?_cons_zero, List.getElem?_cons_succ] at zO8
        have y08 := GR.cell nA y07
        have y18 := GR.cell nA y17
        have y28 := GR.cell nA y27
        have M8 := N7.out.grown hgrow (u' := .slice (some ⟨gg, 0, none⟩) (us.length + 1) cap2) (by rcases hgat with h | h; exact Or.inl (by rw [h]; rfl); exact Or.inr (by rw [h, al_sz]; rfl))
        have G9 := Chg.set w8 O 1 (.slice (some ⟨gg, 0, none⟩) (us.length + 1) cap2)
        have T9 : Hid ((w8.setCell ⟨O, 1, none⟩ (.slice (some ⟨gg, 0, none⟩) (us.length + 1) cap2)).heap[O]? = some (.cells #[.slice ba' bs.length bc', .slice (some ⟨gg, 0, none⟩) (us.length + 1) cap2] 26)) := hide (blk_set T8 1 (.slice (some ⟨gg, 0, none⟩) (us.length + 1) cap2))
        have A9 := hide (cacc_snoc (own_chg hown G9 (fun x hx e => by have := HO.out; omega)))
        have M9 := hide (M8.chg G9 (fun x hx _ _ e => by have := HO.out; omega))
        have Z9 := hide (Nat.le_trans Z7.out (Nat.le_trans GR.size G9.size))
        have C9 : Hid (Chg (fun x => x = O) w1 (w8.setCell ⟨O, 1, none⟩ (.slice (some ⟨gg, 0, none⟩) (us.length + 1) cap2))) := hide (by
          have h1 : Chg (fun x => x = O ∨ bo ≤ x) w1 _ := ((C7.out.mono (fun x _ h => Or.inl h)).trans (GR.mono (fun x _ h => Or.inr (RL.out x h).1))).trans (G9.mono (fun x _ h => Or.inl h))
          exact h1.mono (fun x hx h => by have := HS.out; omega))
        have y09 := G9.cell LO.out y08
        have y19 := G9.cell LO.out y18
        have y29 := G9.cell LO.out y28
        have HL9 : Hid ((us ++ [(nm, (Value.slice va kk.len vc), kb)]).length = i + 1) := hide (by rw [List.length_append, HUL.out]; rfl)
        have F9 : Hid (VInv w1 (w8.setCell ⟨O, 1, none⟩ (.slice (some ⟨gg, 0, none⟩) (us.length + 1) cap2)) O bo (.slice ba' bs.length bc') cs (i + 1)) := hide ⟨_, us ++ [(nm, .slice va kk.len vc, kb)], T9, A9, HL9, M9, Z9, C9⟩
        clear GR T8 M8 G9 hown hgrow hgat nA nO T9 A9 HL9 M9 Z9 C9
        refine hK.out _ _ ⟨y08, y18, y28⟩ (fun hHeld => ?_)
        clear hK K
        try simp only [Act.put, List.getElem_toArray, List.getElem_cons_zero, List.getElem_cons_succ, List.setIfInBounds_toArray, List.set_cons_zero, List.set_cons_succ]
        first
          | (refine wpAnyH_take (i := 10) (v := undef) rfl (by kernel_rfl) (by kernel_rfl) (by kernel_rfl) (fun _ _ _ h => h) (Or.inr ⟨by rfl, rfl⟩) (by assumption) ?_)
          | (refine wpAnyH_take (i := 10) (v := ?_) rfl (by kernel_rfl) (by kernel_rfl) (by kernel_rfl) (fun _ _ _ h => h) (Or.inl ⟨by rfl, ?_⟩) (by assumption) ?_
             rotate_left
             (intro w hSw
              (try dsimp only at hSw)
              (go_simp <;> with_reducible rfl)))
        try simp only [Act.put, List.getElem_toArray, List.getElem_cons_zero, List.getElem_cons_succ, List.setIfInBounds_toArray, List.set_cons_zero, List.set_cons_succ]
        refine wpAnyH_ready (rs := [11]) (by kernel_rfl) (by simp) ?_
        refine AllReadyH.cons (i := 11) (o := _) rfl (fun K hK => ?_) ?_
        rotate_left
        · exact AllReadyH.nil
        go_simp
        refine hK.out _ _ ⟨y09, y19, y29⟩ (fun hHeld => ?_)
        clear hK K
        try simp only [Act.put, List.getElem_toArray, List.getElem_cons_zero, List.getElem_cons_succ, List.setIfInBounds_toArray, List.set_cons_zero, List.set_cons_succ]
        refine wpAnyH_done (by kernel_rfl) ?_ _
        go_wp2_with fail
        go_roundw
        case rel => exact ⟨i + 1, by omega, by go_num, F9⟩
        case measure => simp [intOf]; omega
      refine AllReadyH.cons (i := 8) (o := _) rfl (fun K hK => ?_) ?_
      rotate_left
      · exact AllReadyH.nil
      go_simp
      refine hK.out _ _ ⟨y07, y17, y27⟩ (fun hHeld => ?_)
      clear hK K
      try simp only [Act.put, List.getElem_toArray, List.getElem_cons_zero, List.getElem_cons_succ, List.setIfInBounds_toArray, List.set_cons_zero, List.set_cons_succ]
      refine wpAnyH_ready (rs := [1]) (by kernel_rfl) (by simp) ?_
      refine AllReadyH.cons (i := 1) (o := _) rfl (fun K hK => ?_) ?_
      rotate_left
      · exact AllReadyH.nil
      go_simp
      refine hK.out _ _ ⟨y07, y17, y27⟩ (fun hHeld => ?_)
      clear hK K
      try simp only [Act.put, List.getElem_toArray, List.getElem_cons_zero, List.getElem_cons_succ, List.setIfInBounds_toArray, List.set_cons_zero, List.set_cons_succ]
      refine wpAnyH_ready (rs := [9]) (by kernel_rfl) (by simp) ?_
      refine AllReadyH.cons (i := 9) (o := _) rfl (fun K hK => ?_) ?_
      rotate_left
      · exact AllReadyH.nil
      refine step_append_lies _ (by rfl) _ _ _ (by rfl) bo 32 i0 (.agg #[.string ⟨#[]⟩, .slice none 0 0, .int .i64 0]) 3 48 Tryd.underlying24 hi0 hz0 hz1 hz2 rfl (by omega) _ us.length (cellsC us) (by rfl) A7.out ⟨w6.heap.size, 0, none⟩ 1 1 [.string nm, .slice va kk.len vc, .int .i64 kb] (by rfl) (by rfl) NB.out (by simp [Value.oneCell']) (by omega) (by simp [maxLen]; omega) (by omega) Z7.out (w6.heap.size + 1) (by simp) ?_
      intro gg cap2 w8 hown hgrow hgat hglt
      have GR := (Chg.refl (fun x => u.ownBlock = some x) (w6.alloc (.cells #[.string nm, .slice va kk.len vc, .int .i64 kb] 32))).grown hgrow (fun r e => Or.inl e)
      have nA : ¬ u.ownBlock = some A := fun e => by have := (RL.out A e).2; omega
      have nO : ¬ u.ownBlock = some O := fun e => by have := (RL.out O e).1; have := HO.out; omega
      have T8 := GR.blk nO HT7.out
      have zO8 := blk_cell T8 1
      have fO8 := blk_free T8 1
      simp only [List.getElem?_toArray, List.getElem?_cons_zero, List.getElem?_cons_succ] at zO8
      have y08 := GR.cell nA y07
      have y18 := GR.cell nA y17
      have y28 := GR.cell nA y27
      have M8 := N7.out.grown hgrow (u' := .slice (some ⟨gg, 0, none⟩) (us.length + 1) cap2) (by rcases hgat with h | h; exact Or.inl (by rw [h]; rfl); exact Or.inr (by rw [h, al_sz]; rfl))
      have G9 := Chg.set w8 O 1 (.slice (some ⟨gg, 0, none⟩) (us.length + 1) cap2)
      have T9 : Hid ((w8.setCell ⟨O, 1, none⟩ (.slice (some ⟨gg, 0, none⟩) (us.length + 1) cap2)).heap[O]? = some (.cells #[.slice ba' bs.length bc', .slice (some ⟨gg, 0, none⟩) (us.length + 1) cap2] 26)) := hide (blk_set T8 1 (.slice (some ⟨gg, 0, none⟩) (us.length + 1) cap2))
      have A9 := hide (cacc_snoc (own_chg hown G9 (fun x hx e => by have := HO.out; omega)))
      have M9 := hide (M8.chg G9 (fun x hx _ _ e => by have := HO.out; omega))
      have Z9 := hide (Nat.le_trans Z7.out (Nat.le_trans GR.size G9.size))
      have C9 : Hid (Chg (fun x => x = O) w1 (w8.setCell ⟨O, 1, none⟩ (.slice (some ⟨gg, 0, none⟩) (us.length + 1) cap2))) := hide (by
        have h1 : Chg (fun x => x = O ∨ bo ≤ x) w1 _ := ((C7.out.mono (fun x _ h => Or.inl h)).trans (GR.mono (fun x _ h => Or.inr (RL.out x h).1))).trans (G9.mono (fun x _ h => Or.inl h))
        exact h1.mono (fun x hx h => by have := HS.out; omega))
      have y09 := G9.cell LO.out y08
      have y19 := G9.cell LO.out y18
      have y29 := G9.cell LO.out y28
      have HL9 : Hid ((us ++ [(nm, (Value.slice va kk.len vc), kb)]).length = i + 1) := hide (by rw [List.length_append, HUL.out]; rfl)
      have F9 : Hid (VInv w1 (w8.setCell ⟨O, 1, none⟩ (.slice (some ⟨gg, 0, none⟩) (us.length + 1) cap2)) O bo (.slice ba' bs.length bc') cs (i + 1)) := hide ⟨_, us ++ [(nm, .slice va kk.len vc, kb)], T9, A9, HL9, M9, Z9, C9⟩
      clear GR T8 M8 G9 hown hgrow hgat nA nO T9 A9 HL9 M9 Z9 C9
      refine hK.out _ _ ⟨y08, y18, y28⟩ (fun hHeld => ?_)
      clear hK K
      try simp only [Act.put, List.getElem_toArray, List.getElem_cons_zero, List.getElem_cons_succ, List.setIfInBounds_toArray, List.set_cons_zero, List.set_cons_succ]
      first
        | (refine wpAnyH_take (i := 10) (v := undef) rfl (by kernel_rfl) (by kernel_rfl) (by kernel_rfl) (fun _ _ _ h => h) (Or.inr ⟨by rfl, rfl⟩) (by assumption) ?_)
        | (refine wpAnyH_take (i := 10) (v := ?_) rfl (by kernel_rfl) (by kernel_rfl) (by kernel_rfl) (fun _ _ _ h => h) (Or.inl ⟨by rfl, ?_⟩) (by assumption) ?_
           rotate_left
           (intro w hSw
            (try dsimp only at hSw)
            (go_simp <;> with_reducible rfl)))
      try simp only [Act.put, List.getElem_toArray, List.getElem_cons_zero, List.getElem_cons_succ, List.setIfInBounds_toArray, List.set_cons_zero, List.set_cons_succ]
      refine wpAnyH_ready (rs := [11]) (by kernel_rfl) (by simp) ?_
      refine AllReadyH.cons (i := 11) (o := _) rfl (fun K hK => ?_) ?_
      rotate_left
      · exact AllReadyH.nil
      go_simp
      refine hK.out _ _ ⟨y09, y19, y29⟩ (fun hHeld => ?_)
      clear hK K
      try simp only [Act.put, List.getElem_toArray, List.getElem_cons_zero, List.getElem_cons_succ, List.setIfInBounds_toArray, List.set_cons_zero, List.set_cons_succ]
      refine wpAnyH_done (by kernel_rfl) ?_ _
      go_wp2_with fail
      go_roundw
      case rel => exact ⟨i + 1, by omega, by go_num, F9⟩
      case measure => simp [intOf]; omega
    · have hif : i = cs.length := by omega
      have BRr := hC.out.blk (by have := HO.out; omega) BR.out
      have zO := blk_cell hT.out 0
      have zO1 := blk_cell hT.out 1
      have cR0 := blk_cell BRr 0
      have cR1 := blk_cell BRr 1
      have fR0 := blk_free BRr 0
      have fR1 := blk_free BRr 1
      simp only [List.getElem?_toArray, List.getElem?_cons_zero, List.getElem?_cons_succ] at zO zO1 cR0 cR1
      obtain ⟨ua, uc, hue⟩ : ∃ ua uc, u = .slice ua us.length uc := by
        rcases (show wr.ownsRow bo 32 3 u us.length (cellsC us) from hA.out).2 with ⟨h1, h2⟩ | ⟨g, cap2, cur, h1, _⟩
        · exact ⟨_, _, by rw [h1, h2]⟩
        · exact ⟨_, _, h1⟩
      have T1 := blk_set BRr 0 (.slice ba' bs.length bc')
      have T2 := blk_set T1 1 u
      have S1 := Chg.set wr (W0 + 1) 0 (.slice ba' bs.length bc')
      have S2 := Chg.set (wr.setCell ⟨W0 + 1, 0, none⟩ (.slice ba' bs.length bc')) (W0 + 1) 1 u
      have SS := S1.trans S2
      have AF := own_chg (show wr.ownsRow bo 32 3 u us.length (cellsC us) from hA.out) SS (fun x hx e => by have := HO.out; omega)
      have MF := hM.out.chg SS (fun x hx _ _ e => by have := HO.out; omega)
      have BF := (SB.out.chg hC.out (fun x hx e => by have h1 := hx.2; have h2 := HOW.out; omega)).chg SS (fun x hx e => by have h1 := hx.1; have h2 := SZ.out; omega)
      have CF : Chg (fun _ => False) w ((wr.setCell ⟨W0 + 1, 0, none⟩ (.slice ba' bs.length bc')).setCell ⟨W0 + 1, 1, none⟩ u) := by
        have h1 : Chg (fun x => x = O ∨ x = W0 + 1) w _ := (GW.out.none.trans (hC.out.mono (fun x _ h => Or.inl h))).trans (SS.mono (fun x _ h => Or.inr h))
        exact h1.mono (fun x hx h => by have := HO.out; omega)
      have F : Hid (Strs ((wr.setCell ⟨W0 + 1, 0, none⟩ (.slice ba' bs.length bc')).setCell ⟨W0 + 1, 1, none⟩ u) (fun x => w.heap.size ≤ x ∧ x < ((wr.setCell ⟨W0 + 1, 0, none⟩ (.slice ba' bs.length bc')).setCell ⟨W0 + 1, 1, none⟩ u).heap.size) (.slice ba' bs.length bc') bs ∧ Cns ((wr.setCell ⟨W0 + 1, 0, none⟩ (.slice ba' bs.length bc')).setCell ⟨W0 + 1, 1, none⟩ u) (fun x => w.heap.size ≤ x ∧ x < ((wr.setCell ⟨W0 + 1, 0, none⟩ (.slice ba' bs.length bc')).setCell ⟨W0 + 1, 1, none⟩ u).heap.size) u cs ∧ Chg (fun _ => False) w ((wr.setCell ⟨W0 + 1, 0, none⟩ (.slice ba' bs.length bc')).setCell ⟨W0 + 1, 1, none⟩ u)) := hide ⟨BF.up (fun x hx => ⟨by have h1 := hx.1; have h2 := SZ.out; have h3 := HO.out; omega, by have h1 := hx.2; have h2 := HOW.out; have h3 := SS.size; have h4 := hC.out.size; have h5 := GWS.out; omega⟩),
        cacc_cns AF (fun r e => by have h1 := World.ownsRow.lt AF r e; have := HO.out; exact ⟨by omega, h1.2⟩) HCS.out (by rw [hL.out, hif]) (fun j h1 h2 => ⟨(MF.2 j h1 h2).1, (MF.2 j h1 h2).2.1, (MF.2 j h1 h2).2.2.up (fun x hx => ⟨by have := HO.out; omega, hx.2.1⟩)⟩), CF⟩
      have z0 : ((wr.setCell ⟨W0 + 1, 0, none⟩ (.slice ba' bs.length bc')).setCell ⟨W0 + 1, 1, none⟩ u).cell? ⟨W0 + 1, 0, none⟩ = some (.slice ba' bs.length bc') := blk_cell T2 0
      have z1 : ((wr.setCell ⟨W0 + 1, 0, none⟩ (.slice ba' bs.length bc')).setCell ⟨W0 + 1, 1, none⟩ u).cell? ⟨W0 + 1, 1, none⟩ = some u := blk_cell T2 1
      subst hue
      subst hif
      clear T1 T2 S1 S2 SS AF MF BF CF hT hA hL hM hZ hC BRr
      go_wp2_with fail
      generalize ((wr.setCell ⟨W0 + 1, 0, none⟩ (.slice ba' bs.length bc')).setCell ⟨W0 + 1, 1, none⟩ (.slice ua us.length uc)) = wF at *
      refine bodyPost_ret (fn := Tryd.f34) (v := .agg #[.slice ba' bs.length bc', .slice ua us.length uc]) (by simp [results, Tryd.results34, go_sem, z0, z1]) rfl ?_
      exact ⟨⟨_, _, rfl, F.out.1, F.out.2.1⟩, F.out.2.2⟩
end Go.Proofs.YtdoohocdaacnaaaDoor
