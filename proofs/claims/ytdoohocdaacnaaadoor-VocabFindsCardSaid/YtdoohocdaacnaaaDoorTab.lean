/- Tables, there and back. -/
import Derived.Test.YtdoohocdaacnaaaDoorFew
import Derived.Test.YtdoohocdaacnaaaDoorVcopy
import Derived.Deep.AppendLies
namespace Go.Proofs.YtdoohocdaacnaaaDoor
open Go.RowKit
set_option linter.unusedVariables false
set_option linter.unusedSimpArgs false

theorem info65 : (Tryd.prog.info? 65).map (fun i => (i.zero, i.size, i.bytes)) = some (some (.agg #[.string ⟨#[]⟩, .slice none 0 0, .int .i64 0]), 3, 48) := by kernel_rfl
/-- An own row of constants, of this element type. -/
def CAccT (t : TypeId) (w : World) (base : Nat) (v : Value) (us : List Cv) : Prop := w.ownsRow base t 3 v us.length (cellsC us)
theorem caccT_snoc {t : TypeId} {w : World} {base : Nat} {v : Value} {us : List Cv} {s : ByteArray} {x : Value} {b : Int} (h : w.ownsRow base t 3 v (us.length + 1) (cellsC us ++ [.string s, x, .int .i64 b])) : CAccT t w base v (us ++ [(s, x, b)]) := by
  unfold CAccT
  rw [List.length_append, cellsC_app]
  exact h
theorem caccT_cns {t : TypeId} {w : World} {base : Nat} {v : Value} {us : List Cv} (h : CAccT t w base v us) {X : Nat → Prop} (hX : ∀ r, v.ownBlock = some r → X r) {cs : List Cn} (hsz : ∀ c ∈ cs, c.1.size ≤ maxLen ∧ c.2.1.size ≤ 10000) (hl : cs.length = us.length)
    (he : ∀ i (h1 : i < cs.length) (h2 : i < us.length), (cs[i]).1 = (us[i]).1 ∧ (cs[i]).2.2 = (us[i]).2.2 ∧ Ts w X (us[i]).2.1 (cs[i]).2.1) : Cns w X v cs := by
  refine ⟨hsz, ?_⟩
  obtain ⟨h1, h2⟩ := id h
  rcases h2 with ⟨rfl, h3⟩ | ⟨g, cap, cur, rfl, h3⟩
  · exact ⟨none, 0, by rw [hl, h3], Or.inl (List.eq_nil_of_length_eq_zero (by omega))⟩
  · refine ⟨_, cap, by rw [hl], Or.inr ⟨g, 0, rfl, hX g rfl, fun i hi => ?_⟩⟩
    obtain ⟨a, b, c⟩ := cellsC_get us i (by omega)
    have hc := World.ownsRow.cells h (g := g) rfl
    have ha := hc _ _ a
    have hb := hc _ _ b
    have hcc := hc _ _ c
    rw [add_at, Nat.zero_add] at ha hb hcc
    obtain ⟨e1, e2, e3⟩ := he i hi (by omega)
    rw [Nat.zero_add, e1, e2]
    exact ⟨ha, ⟨_, hb, e3⟩, hcc⟩
/-- A row of constants that came in: of any size. -/
def CnsI (w : World) (X : Nat → Prop) (v : Value) (l : List Cn) : Prop := ∃ a cap, v = .slice a l.length cap ∧ (l = [] ∨ ∃ g off, a = some ⟨g, off, none⟩ ∧ X g ∧ ∀ i (h : i < l.length), w.cell? ⟨g, off + i * 3, none⟩ = some (.string l[i].1) ∧ (∃ v, w.cell? ⟨g, off + i * 3 + 1, none⟩ = some v ∧ Ts w X v l[i].2.1) ∧ w.cell? ⟨g, off + i * 3 + 2, none⟩ = some (.int .i64 l[i].2.2))
theorem CnsI.chg {w w' : World} {X : Nat → Prop} {v : Value} {l : List Cn} (h : CnsI w X v l) {S : Nat → Prop} (g : Chg S w w') (hn : ∀ x, X x → ¬ S x) : CnsI w' X v l := by
  obtain ⟨a, cap, e, h1⟩ := h
  refine ⟨a, cap, e, ?_⟩
  rcases h1 with h1 | ⟨g1, off, e1, h2, h3⟩
  · exact Or.inl h1
  · refine Or.inr ⟨g1, off, e1, h2, fun i hi => ?_⟩
    obtain ⟨a1, ⟨v, a2, a3⟩, a4⟩ := h3 i hi
    exact ⟨g.cell (hn _ h2) a1, ⟨v, g.cell (hn _ h2) a2, a3.chg g hn⟩, g.cell (hn _ h2) a4⟩
/-- what the loop keeps -/
def VInvT (tt te : TypeId) (w1 wr : World) (O bo : Nat) (bv : Value) (cs : List Cn) (i : Nat) : Prop :=
  ∃ (u : Value) (us : List Cv), Hid (wr.heap[O]? = some (.cells #[bv, u] tt)) ∧ Hid (CAccT te wr bo u us) ∧ Hid (us.length = i) ∧ Hid (Same2 wr bo u cs us) ∧ Hid (bo ≤ wr.heap.size) ∧ Hid (Chg (fun x => x = O) w1 wr)
theorem own_chg2 {w w' : World} {base : Nat} {e : TypeId} {size n : Nat} {v : Value} {xs : List Value} (h : w.ownsRow base e size v n xs) {S : Nat → Prop} (g : Chg S w w') (hn : ∀ x, v.ownBlock = some x → ¬ S x) : w'.ownsRow base e size v n xs := by
  obtain ⟨h1, h2⟩ := h
  refine ⟨h1, ?_⟩
  rcases h2 with h2 | ⟨gg, cap, cur, e1, h3, h4, h5⟩
  · exact Or.inl h2
  · exact Or.inr ⟨gg, cap, cur, e1, h3, g.blk (hn gg (by rw [e1]; rfl)) h4, h5⟩
/-- what To makes of a constant -/
def toC (c : Cn) : Cn := if fewT 100 70 c.2.1 ≤ 100 then c else (c.1, .nil, 0)
def toCs (l : List Cn) : List Cn := (l.take 30).map toC
theorem toCs_len (l : List Cn) : (toCs l).length = min 30 l.length := by simp [toCs]
theorem toC_size (c : Cn) : (toC c).2.1.size ≤ 99 := by
  unfold toC
  split
  · rename_i h
    have := (fewT_iff 100 69 c.2.1).1 h
    omega
  · simp [Fs.size]
theorem toCs_at (l : List Cn) (i : Nat) (h : i < (toCs l).length) (h2 : i < l.length) : (toCs l)[i] = toC l[i] := by simp [toCs]
theorem toC_name (c : Cn) : (toC c).1 = c.1 := by unfold toC; split <;> rfl

set_option maxRecDepth 100000 in
set_option maxHeartbeats 32000000 in
theorem ofT_any (cs : List Cn) (hcl : cs.length ≤ 1000) (bv cv : Value) (ba : Option Addr) (bn bc : Nat) (hbv : bv = .slice ba bn bc) (X : Nat → Prop) (w : World) (hX : ∀ x, X x → x < w.heap.size) (hc : Cns w X cv cs) :
    Calls Tryd.prog 12 #[.agg #[bv, cv]] w fun e w' => (∃ cv', e = .returned (.agg #[bv, cv']) ∧ Cns w' (fun x => w.heap.size ≤ x ∧ x < w'.heap.size) cv' cs) ∧ Chg (fun _ => False) w w' := by
  obtain ⟨i0, hi0, hz0, hz1, hz2⟩ := info_parts info65
  subst hbv
  obtain ⟨hcs, ca, cc, rfl, _⟩ := id hc
  have HCL := hide hcl
  have HCS := hide hcs
  have G1 := al w (.cells #[.slice ba bn bc, .slice ca cs.length cc] 26)
  have G2 := al (w.alloc (.cells #[.slice ba bn bc, .slice ca cs.length cc] 26)) (.cells #[.slice none 0 0, .slice none 0 0] 39)
  have G3 := al ((w.alloc (.cells #[.slice ba bn bc, .slice ca cs.length cc] 26)).alloc (.cells #[.slice none 0 0, .slice none 0 0] 39)) (.cells #[.slice ba bn bc, .slice none 0 0] 39)
  have b0 := blk_new w (.cells #[.slice ba bn bc, .slice ca cs.length cc] 26)
  have b1 := blk_new (w.alloc (.cells #[.slice ba bn bc, .slice ca cs.length cc] 26)) (.cells #[.slice none 0 0, .slice none 0 0] 39)
  have b2 := blk_new ((w.alloc (.cells #[.slice ba bn bc, .slice ca cs.length cc] 26)).alloc (.cells #[.slice none 0 0, .slice none 0 0] 39)) (.cells #[.slice ba bn bc, .slice none 0 0] 39)
  have b0' := G3.blk (fun h => h) (G2.blk (fun h => h) b0)
  have b1' := G3.blk (fun h => h) b1
  rw [al_sz, al_sz] at b2
  rw [al_sz] at b1'
  have GG := hide (G1.trans (G2.trans G3))
  have sz3 : (((w.alloc (.cells #[.slice ba bn bc, .slice ca cs.length cc] 26)).alloc (.cells #[.slice none 0 0, .slice none 0 0] 39)).alloc (.cells #[.slice ba bn bc, .slice none 0 0] 39)).heap.size = w.heap.size + 3 := by rw [al_sz, al_sz, al_sz]
  have BX := hide b0'
  have BR := hide b1'
  have BO := hide b2
  have SZ := hide sz3
  have HX := hide hX
  have HCV := hide hc
  clear G1 G2 G3 hc sz3 hX b0 b1 b2 b0' b1'
  go_enter Tryd.func12, Tryd.ntmps12
  go_wp2_with fail
  generalize (((w.alloc (.cells #[.slice ba bn bc, .slice ca cs.length cc] 26)).alloc (.cells #[.slice none 0 0, .slice none 0 0] 39)).alloc (.cells #[.slice ba bn bc, .slice none 0 0] 39)) = w1 at *
  obtain ⟨P, hP⟩ : ∃ P, w.heap.size = P := ⟨_, rfl⟩
  have HP := hide hP
  rw [hP] at BX BR BO ⊢
  obtain ⟨R, hR⟩ : ∃ R, P + 1 = R := ⟨_, rfl⟩
  rw [hR] at BR BO ⊢
  obtain ⟨O, hO⟩ : ∃ O, R + 1 = O := ⟨_, rfl⟩
  rw [hO] at BO ⊢
  obtain ⟨bo, hbo⟩ : ∃ bo, w1.heap.size = bo := ⟨_, rfl⟩
  have HS := hide hbo
  have HO : Hid (O < bo ∧ R < O ∧ w.heap.size < R ∧ P < R ∧ P = w.heap.size) := hide (by have := SZ.out; refine ⟨by omega, by omega, by omega, by omega, by omega⟩)
  clear hR hO hbo SZ hP
  go_loopw [4] (fun iv wr => ∃ (i : Nat), i ≤ cs.length ∧ iv = .int .i64 i ∧ Hid (VInvT 39 65 w1 wr O bo (.slice ba bn bc) (cs) i)) (fun iv _ => cs.length - (intOf iv).toNat)
  case atStart => exact ⟨0, Nat.zero_le _, rfl, _, [], BO, ⟨rfl, Or.inl ⟨rfl, rfl⟩⟩, rfl, Same2.nil _ _ _ _, Nat.le_of_eq HS.out.symm, Chg.refl _ _⟩
  case round =>
    clear BO
    obtain ⟨i, hi, rfl, hIN⟩ := hrel
    obtain ⟨u, us, hT, hA, hL, hM, hZ, hC⟩ := hIN.out
    clear hIN
    have BXr := hC.out.blk (by have := HO.out; omega) BX.out
    have xP := blk_cell BXr 1
    have xP0 := blk_cell BXr 0
    simp only [List.getElem?_toArray, List.getElem?_cons_zero, List.getElem?_cons_succ] at xP xP0
    clear BXr
    have hus : us.length ≤ 1000 := by have := hL.out; have := HCL.out; omega
    by_cases hlt : i < cs.length
    · have nO : ∀ x, X x → ¬ x = O := fun x hx e => by have := HX.out x hx; have := HO.out; omega
      have WC : Chg (fun x => x = O) w wr := GG.out.none.trans hC.out
      obtain ⟨hsz, la, lc, hlv, hl⟩ := HCV.out.chg WC nO
      rcases hl with h0 | ⟨g, off, rfl, hg, hl⟩
      · rw [h0] at hlt; exact absurd hlt (Nat.not_lt_zero _)
      injection hlv with e1 e2 e3
      subst e1
      subst e3
      clear e2
      obtain ⟨d0, ⟨vi, d1, ti⟩, d2⟩ := hl i hlt
      obtain ⟨ka, kc, rfl, _⟩ := id ti
      have hsz0 := hsz _ (List.getElem_mem hlt)
      have i1 : (0 : Int) ≤ (i : Int) := by omega
      have i2 : (i : Int) < (cs.length : Int) := by omega
      have zO := blk_cell hT.out 1
      simp only [List.getElem?_toArray, List.getElem?_cons_zero, List.getElem?_cons_succ] at zO
      have HT5 := hT
      have A5 := hide (show wr.ownsRow bo 65 3 u us.length (cellsC us) from hA.out)
      have M5 := hM
      have C5 := hC
      have Z5 := hZ
      have ti5 := hide ti
      have BW := hide (fun x (hx : X x) => Nat.lt_of_lt_of_le (HX.out x hx) WC.size)
      have RL := hide (fun r (e : u.ownBlock = some r) => World.ownsRow.lt (show wr.ownsRow bo 65 3 u us.length (cellsC us) from hA.out) r e)
      have SN := hide (fun (w' : World) (v' : Value) (h : Same2 w' bo u cs us) (hv' : Ts w' (fun x => bo ≤ x ∧ x < w'.heap.size ∧ u.ownBlock ≠ some x) v' cs[i].2.1) => h.snoc hlt hL.out rfl rfl hv')
      have lO : Hid (P ≠ O ∧ g ≠ O ∧ (∀ r, u.ownBlock = some r → P ≠ r ∧ g ≠ r)) := hide (by
        have h1 := HX.out g hg
        have h2 := HO.out
        have h3 := HS.out
        refine ⟨by omega, by omega, fun r e => ?_⟩
        have := (RL.out r e).1
        exact ⟨by omega, by omega⟩)
      have HUL := hide hL.out
      have SK := hide hsz0.2
      clear hl hsz hsz0 ti hg WC hT hA hL hM hZ hC nO
      generalize cs[i] = c at *
      obtain ⟨nm, kk, kb⟩ := c
      dsimp only at d0 d1 d2 ti5 SN SK
      have ar := hide (of04_any kk (by have := SK.out; omega) (.slice ka kk.len kc) kb X wr.drew (fun x hx => Nat.lt_of_lt_of_le (BW.out x hx) (Chg.refl (fun _ => False) wr).drew.size) (ti5.out.chg ((Chg.refl (fun _ => False) wr).drew) (fun _ _ h => h)))
      go_wp2_with fail
      generalize wr = w5 at *
      refine wp_region_held_drew (S := (fun w' => w'.cell? ⟨P, 1, none⟩ = some (.slice (some ⟨g, off, none⟩) cs.length cc) ∧ w'.cell? ⟨g, off + i * 3, none⟩ = some (.string nm) ∧ w'.cell? ⟨g, off + i * 3 + 1, none⟩ = some (.slice ka kk.len kc) ∧ w'.cell? ⟨g, off + i * 3 + 2, none⟩ = some (.int .i64 kb))) (by kernel_rfl) (by go_keep) (fun hHeld => ?_)
      first
        | (refine wpAnyH_take (i := 0) (v := undef) rfl (by kernel_rfl) (by kernel_rfl) (by kernel_rfl) (fun _ _ _ h => h) (Or.inr ⟨by rfl, rfl⟩) (by assumption) ?_)
        | (refine wpAnyH_take (i := 0) (v := ?_) rfl (by kernel_rfl) (by kernel_rfl) (by kernel_rfl) (fun _ _ _ h => h) (Or.inl ⟨by rfl, ?_⟩) (by assumption) ?_
           rotate_left
           (intro w hSw
            (try dsimp only at hSw)
            (go_simp <;> with_reducible rfl)))
      try simp only [Act.put, List.getElem_toArray, List.getElem_cons_zero, List.getElem_cons_succ, List.setIfInBounds_toArray, List.set_cons_zero, List.set_cons_succ]
      first
        | (refine wpAnyH_take (i := 2) (v := undef) rfl (by kernel_rfl) (by kernel_rfl) (by kernel_rfl) (fun _ _ _ h => h) (Or.inr ⟨by rfl, rfl⟩) (by assumption) ?_)
        | (refine wpAnyH_take (i := 2) (v := ?_) rfl (by kernel_rfl) (by kernel_rfl) (by kernel_rfl) (fun _ _ _ h => h) (Or.inl ⟨by rfl, ?_⟩) (by assumption) ?_
           rotate_left
           (intro w hSw
            (try dsimp only at hSw)
            (go_simp <;> with_reducible rfl)))
      try simp only [Act.put, List.getElem_toArray, List.getElem_cons_zero, List.getElem_cons_succ, List.setIfInBounds_toArray, List.set_cons_zero, List.set_cons_succ]
      first
        | (refine wpAnyH_take (i := 3) (v := undef) rfl (by kernel_rfl) (by kernel_rfl) (by kernel_rfl) (fun _ _ _ h => h) (Or.inr ⟨by rfl, rfl⟩) (by assumption) ?_)
        | (refine wpAnyH_take (i := 3) (v := ?_) rfl (by kernel_rfl) (by kernel_rfl) (by kernel_rfl) (fun _ _ _ h => h) (Or.inl ⟨by rfl, ?_⟩) (by assumption) ?_
           rotate_left
           (intro w hSw
            (try dsimp only at hSw)
            (go_simp <;> with_reducible rfl)))
      try simp only [Act.put, List.getElem_toArray, List.getElem_cons_zero, List.getElem_cons_succ, List.setIfInBounds_toArray, List.set_cons_zero, List.set_cons_succ]
      first
        | (refine wpAnyH_take (i := 4) (v := undef) rfl (by kernel_rfl) (by kernel_rfl) (by kernel_rfl) (fun _ _ _ h => h) (Or.inr ⟨by rfl, rfl⟩) (by assumption) ?_)
        | (refine wpAnyH_take (i := 4) (v := ?_) rfl (by kernel_rfl) (by kernel_rfl) (by kernel_rfl) (fun _ _ _ h => h) (Or.inl ⟨by rfl, ?_⟩) (by assumption) ?_
           rotate_left
           (intro w hSw
            (try dsimp only at hSw)
            (go_simp <;> with_reducible rfl)))
      try simp only [Act.put, List.getElem_toArray, List.getElem_cons_zero, List.getElem_cons_succ, List.setIfInBounds_toArray, List.set_cons_zero, List.set_cons_succ]
      first
        | (refine wpAnyH_take (i := 5) (v := undef) rfl (by kernel_rfl) (by kernel_rfl) (by kernel_rfl) (fun _ _ _ h => h) (Or.inr ⟨by rfl, rfl⟩) (by assumption) ?_)
        | (refine wpAnyH_take (i := 5) (v := ?_) rfl (by kernel_rfl) (by kernel_rfl) (by kernel_rfl) (fun _ _ _ h => h) (Or.inl ⟨by rfl, ?_⟩) (by assumption) ?_
           rotate_left
           (intro w hSw
            (try dsimp only at hSw)
            (go_simp <;> with_reducible rfl)))
      try simp only [Act.put, List.getElem_toArray, List.getElem_cons_zero, List.getElem_cons_succ, List.setIfInBounds_toArray, List.set_cons_zero, List.set_cons_succ]
      first
        | (refine wpAnyH_take (i := 6) (v := undef) rfl (by kernel_rfl) (by kernel_rfl) (by kernel_rfl) (fun _ _ _ h => h) (Or.inr ⟨by rfl, rfl⟩) (by assumption) ?_)
        | (refine wpAnyH_take (i := 6) (v := ?_) rfl (by kernel_rfl) (by kernel_rfl) (by kernel_rfl) (fun _ _ _ h => h) (Or.inl ⟨by rfl, ?_⟩) (by assumption) ?_
           rotate_left
           (intro w hSw
            (try dsimp only at hSw)
            (go_simp <;> with_reducible rfl)))
      try simp only [Act.put, List.getElem_toArray, List.getElem_cons_zero, List.getElem_cons_succ, List.setIfInBounds_toArray, List.set_cons_zero, List.set_cons_succ]
      first
        | (refine wpAnyH_take (i := 7) (v := undef) rfl (by kernel_rfl) (by kernel_rfl) (by kernel_rfl) (fun _ _ _ h => h) (Or.inr ⟨by rfl, rfl⟩) (by assumption) ?_)
        | (refine wpAnyH_take (i := 7) (v := ?_) rfl (by kernel_rfl) (by kernel_rfl) (by kernel_rfl) (fun _ _ _ h => h) (Or.inl ⟨by rfl, ?_⟩) (by assumption) ?_
           rotate_left
           (intro w hSw
            (try dsimp only at hSw)
            (go_simp <;> with_reducible rfl)))
      try simp only [Act.put, List.getElem_toArray, List.getElem_cons_zero, List.getElem_cons_succ, List.setIfInBounds_toArray, List.set_cons_zero, List.set_cons_succ]
      first
        | (refine wpAnyH_take (i := 8) (v := undef) rfl (by kernel_rfl) (by kernel_rfl) (by kernel_rfl) (fun _ _ _ h => h) (Or.inr ⟨by rfl, rfl⟩) (by assumption) ?_)
        | (refine wpAnyH_take (i := 8) (v := ?_) rfl (by kernel_rfl) (by kernel_rfl) (by kernel_rfl) (fun _ _ _ h => h) (Or.inl ⟨by rfl, ?_⟩) (by assumption) ?_
           rotate_left
           (intro w hSw
            (try dsimp only at hSw)
            (go_simp <;> with_reducible rfl)))
      try simp only [Act.put, List.getElem_toArray, List.getElem_cons_zero, List.getElem_cons_succ, List.setIfInBounds_toArray, List.set_cons_zero, List.set_cons_succ]
      first
        | (refine wpAnyH_take (i := 9) (v := undef) rfl (by kernel_rfl) (by kernel_rfl) (by kernel_rfl) (fun _ _ _ h => h) (Or.inr ⟨by rfl, rfl⟩) (by assumption) ?_)
        | (refine wpAnyH_take (i := 9) (v := ?_) rfl (by kernel_rfl) (by kernel_rfl) (by kernel_rfl) (fun _ _ _ h => h) (Or.inl ⟨by rfl, ?_⟩) (by assumption) ?_
           rotate_left
           (intro w hSw
            (try dsimp only at hSw)
            (go_simp <;> with_reducible rfl)))
      try simp only [Act.put, List.getElem_toArray, List.getElem_cons_zero, List.getElem_cons_succ, List.setIfInBounds_toArray, List.set_cons_zero, List.set_cons_succ]
      first
        | (refine wpAnyH_take (i := 10) (v := undef) rfl (by kernel_rfl) (by kernel_rfl) (by kernel_rfl) (fun _ _ _ h => h) (Or.inr ⟨by rfl, rfl⟩) (by assumption) ?_)
        | (refine wpAnyH_take (i := 10) (v := ?_) rfl (by kernel_rfl) (by kernel_rfl) (by kernel_rfl) (fun _ _ _ h => h) (Or.inl ⟨by rfl, ?_⟩) (by assumption) ?_
           rotate_left
           (intro w hSw
            (try dsimp only at hSw)
            (go_simp <;> with_reducible rfl)))
      try simp only [Act.put, List.getElem_toArray, List.getElem_cons_zero, List.getElem_cons_succ, List.setIfInBounds_toArray, List.set_cons_zero, List.set_cons_succ]
      first
        | (refine wpAnyH_take (i := 11) (v := undef) rfl (by kernel_rfl) (by kernel_rfl) (by kernel_rfl) (fun _ _ _ h => h) (Or.inr ⟨by rfl, rfl⟩) (by assumption) ?_)
        | (refine wpAnyH_take (i := 11) (v := ?_) rfl (by kernel_rfl) (by kernel_rfl) (by kernel_rfl) (fun _ _ _ h => h) (Or.inl ⟨by rfl, ?_⟩) (by assumption) ?_
           rotate_left
           (intro w hSw
            (try dsimp only at hSw)
            (go_simp <;> with_reducible rfl)))
      try simp only [Act.put, List.getElem_toArray, List.getElem_cons_zero, List.getElem_cons_succ, List.setIfInBounds_toArray, List.set_cons_zero, List.set_cons_succ]
      first
        | (refine wpAnyH_take (i := 12) (v := undef) rfl (by kernel_rfl) (by kernel_rfl) (by kernel_rfl) (fun _ _ _ h => h) (Or.inr ⟨by rfl, rfl⟩) (by assumption) ?_)
        | (refine wpAnyH_take (i := 12) (v := ?_) rfl (by kernel_rfl) (by kernel_rfl) (by kernel_rfl) (fun _ _ _ h => h) (Or.inl ⟨by rfl, ?_⟩) (by assumption) ?_
           rotate_left
           (intro w hSw
            (try dsimp only at hSw)
            (go_simp <;> with_reducible rfl)))
      try simp only [Act.put, List.getElem_toArray, List.getElem_cons_zero, List.getElem_cons_succ, List.setIfInBounds_toArray, List.set_cons_zero, List.set_cons_succ]
      first
        | (refine wpAnyH_take (i := 13) (v := undef) rfl (by kernel_rfl) (by kernel_rfl) (by kernel_rfl) (fun _ _ _ h => h) (Or.inr ⟨by rfl, rfl⟩) (by assumption) ?_)
        | (refine wpAnyH_take (i := 13) (v := ?_) rfl (by kernel_rfl) (by kernel_rfl) (by kernel_rfl) (fun _ _ _ h => h) (Or.inl ⟨by rfl, ?_⟩) (by assumption) ?_
           rotate_left
           (intro w hSw
            (try dsimp only at hSw)
            (go_simp <;> with_reducible rfl)))
      try simp only [Act.put, List.getElem_toArray, List.getElem_cons_zero, List.getElem_cons_succ, List.setIfInBounds_toArray, List.set_cons_zero, List.set_cons_succ]
      refine wpAnyH_ready (rs := [1, 14]) (by kernel_rfl) (by simp) ?_
      refine AllReadyH.cons (i := 1) (o := _) rfl (fun K hK => ?_) ?_
      · go_simp
        refine hK.out _ _ ⟨xP, d0, d1, d2⟩ (fun hHeld => ?_)
        clear hK K
        try simp only [Act.put, List.getElem_toArray, List.getElem_cons_zero, List.getElem_cons_succ, List.setIfInBounds_toArray, List.set_cons_zero, List.set_cons_succ]
        refine wpAnyH_ready (rs := [14]) (by kernel_rfl) (by simp) ?_
        refine AllReadyH.cons (i := 14) (o := _) rfl (fun K hK => ?_) ?_
        rotate_left
        · exact AllReadyH.nil
        go_simp
        refine ar.out.mono ?_
        rintro e w6 ⟨⟨v', rfl, t6⟩, g6'⟩
        obtain ⟨va, vc, rfl, _⟩ := id t6
        have g6 := (Chg.refl (fun _ => False) w5).drew.trans g6'
        have xP6 := g6.cell (fun h => h) xP
        have d06 := g6.cell (fun h => h) d0
        have d16 := g6.cell (fun h => h) d1
        have d26 := g6.cell (fun h => h) d2
        have zO6 := g6.cell (fun h => h) zO
        have G7 := al w6 (.cells #[.string nm, .slice va kk.len vc, .int .i64 kb] 65)
        have xP7 := G7.cell (fun h => h) xP6
        have d07 := G7.cell (fun h => h) d06
        have d17 := G7.cell (fun h => h) d16
        have d27 := G7.cell (fun h => h) d26
        have zO7 := G7.cell (fun h => h) zO6
        have HT7 := hide (G7.blk (fun h => h) (g6.blk (fun h => h) HT5.out))
        have A7 := hide (own_chg (own_chg A5.out g6 (fun x hx h => h)) G7 (fun x hx h => h))
        have M7 := (M5.out.chg g6 (fun _ _ _ _ h => h)).chg G7 (fun _ _ _ _ h => h)
        have C7 := hide ((C5.out.trans g6.none).trans G7.none)
        have T7 := (t6.chg G7 (fun _ _ h => h)).up (Y := fun x => bo ≤ x ∧ x < (w6.alloc (.cells #[.string nm, .slice va kk.len vc, .int .i64 kb] 65)).heap.size ∧ u.ownBlock ≠ some x) (fun x hx => ⟨Nat.le_trans Z5.out hx.1, Nat.lt_of_lt_of_le hx.2 G7.size, fun e => by have h1 := (RL.out x e).2; have h3 : w5.heap.size ≤ x := hx.1; omega⟩)
        have N7 := hide (SN.out _ _ M7 T7)
        have Z7 := hide (Nat.le_trans Z5.out (Nat.le_trans g6.size G7.size))
        have NB := hide (World.news_of_block (cs := #[.string nm, .slice va kk.len vc, .int .i64 kb]) (t := 65) (fr := (0, 0)) (heap_alloc_new w6 _))
        clear t6 g6 g6' G7 M7 T7
        go_simp
        refine hK.out _ _ ⟨xP6, d06, d16, d26⟩ (fun hHeld => ?_)
        clear hK K
        try simp only [Act.put, List.getElem_toArray, List.getElem_cons_zero, List.getElem_cons_succ, List.setIfInBounds_toArray, List.set_cons_zero, List.set_cons_succ]
        first
          | (refine wpAnyH_take (i := 15) (v := undef) rfl (by kernel_rfl) (by kernel_rfl) (by kernel_rfl) (fun _ _ _ h => h) (Or.inr ⟨by rfl, rfl⟩) (by assumption) ?_)
          | (refine wpAnyH_take (i := 15) (v := ?_) rfl (by kernel_rfl) (by kernel_rfl) (by kernel_rfl) (fun _ _ _ h => h) (Or.inl ⟨by rfl, ?_⟩) (by assumption) ?_
             rotate_left
             (intro w hSw
              (try dsimp only at hSw)
              (go_simp <;> with_reducible rfl)))
        try simp only [Act.put, List.getElem_toArray, List.getElem_cons_zero, List.getElem_cons_succ, List.setIfInBounds_toArray, List.set_cons_zero, List.set_cons_succ]
        refine wpAnyH_ready (rs := [16]) (by kernel_rfl) (by simp) ?_
        refine AllReadyH.cons (i := 16) (o := _) rfl (fun K hK => ?_) ?_
        rotate_left
        · exact AllReadyH.nil
        go_simp
        refine hK.out _ _ ⟨xP7, d07, d17, d27⟩ (fun hHeld => ?_)
        clear hK K
        try simp only [Act.put, List.getElem_toArray, List.getElem_cons_zero, List.getElem_cons_succ, List.setIfInBounds_toArray, List.set_cons_zero, List.set_cons_succ]
        refine wpAnyH_ready (rs := [17]) (by kernel_rfl) (by simp) ?_
        refine AllReadyH.cons (i := 17) (o := _) rfl (fun K hK => ?_) ?_
        rotate_left
        · exact AllReadyH.nil
        refine step_append_lies _ (by rfl) _ _ _ (by rfl) bo 65 i0 (.agg #[.string ⟨#[]⟩, .slice none 0 0, .int .i64 0]) 3 48 Tryd.underlying37 hi0 hz0 hz1 hz2 rfl (by omega) _ us.length (cellsC us) (by rfl) A7.out ⟨w6.heap.size, 0, none⟩ 1 1 [.string nm, .slice va kk.len vc, .int .i64 kb] (by rfl) (by rfl) NB.out (by simp [Value.oneCell']) (by omega) (by simp [maxLen]; omega) (by omega) Z7.out (w6.heap.size + 1) (by simp) ?_
        intro gg cap2 w8 hown hgrow hgat hglt
        have GR := (Chg.refl (fun x => u.ownBlock = some x) (w6.alloc (.cells #[.string nm, .slice va kk.len vc, .int .i64 kb] 65))).grown hgrow (fun r e => Or.inl e)
        have nO : ¬ u.ownBlock = some O := fun e => by have := (RL.out O e).1; have := HO.out; omega
        have T8 := GR.blk nO HT7.out
        have zO8 := blk_cell T8 1
        have fO8 := blk_free T8 1
        simp only [List.getElem?_toArray, List.getElem?_cons_zero, List.getElem?_cons_succ] at zO8
        have xP8 := GR.cell (fun e => (lO.out.2.2 P e).1 rfl) xP7
        have d08 := GR.cell (fun e => (lO.out.2.2 g e).2 rfl) d07
        have d18 := GR.cell (fun e => (lO.out.2.2 g e).2 rfl) d17
        have d28 := GR.cell (fun e => (lO.out.2.2 g e).2 rfl) d27
        have M8 := N7.out.grown hgrow (u' := .slice (some ⟨gg, 0, none⟩) (us.length + 1) cap2) (by rcases hgat with h | h; exact Or.inl (by rw [h]; rfl); exact Or.inr (by rw [h, al_sz]; rfl))
        have G9 := Chg.set w8 O 1 (.slice (some ⟨gg, 0, none⟩) (us.length + 1) cap2)
        have T9 : Hid ((w8.setCell ⟨O, 1, none⟩ (.slice (some ⟨gg, 0, none⟩) (us.length + 1) cap2)).heap[O]? = some (.cells #[.slice ba bn bc, .slice (some ⟨gg, 0, none⟩) (us.length + 1) cap2] 39)) := hide (blk_set T8 1 (.slice (some ⟨gg, 0, none⟩) (us.length + 1) cap2))
        have A9 := hide (caccT_snoc (own_chg hown G9 (fun x hx e => by have := HO.out; omega)))
        have M9 := hide (M8.chg G9 (fun x hx _ _ e => by have := HO.out; omega))
        have Z9 := hide (Nat.le_trans Z7.out (Nat.le_trans GR.size G9.size))
        have C9 : Hid (Chg (fun x => x = O) w1 (w8.setCell ⟨O, 1, none⟩ (.slice (some ⟨gg, 0, none⟩) (us.length + 1) cap2))) := hide (by
          have h1 : Chg (fun x => x = O ∨ bo ≤ x) w1 _ := ((C7.out.mono (fun x _ h => Or.inl h)).trans (GR.mono (fun x _ h => Or.inr (RL.out x h).1))).trans (G9.mono (fun x _ h => Or.inl h))
          exact h1.mono (fun x hx h => by have := HS.out; omega))
        have xP9 := G9.cell (lO.out.1) xP8
        have d09 := G9.cell (lO.out.2.1) d08
        have d19 := G9.cell (lO.out.2.1) d18
        have d29 := G9.cell (lO.out.2.1) d28
        have HL9 : Hid ((us ++ [(nm, (Value.slice va kk.len vc), kb)]).length = i + 1) := hide (by rw [List.length_append, HUL.out]; rfl)
        have F9 : Hid (VInvT 39 65 w1 (w8.setCell ⟨O, 1, none⟩ (.slice (some ⟨gg, 0, none⟩) (us.length + 1) cap2)) O bo (.slice ba bn bc) (cs) (i + 1)) := hide ⟨_, us ++ [(nm, .slice va kk.len vc, kb)], T9, A9, HL9, M9, Z9, C9⟩
        clear GR T8 M8 G9 hown hgrow hgat nO T9 A9 HL9 M9 Z9 C9
        refine hK.out _ _ ⟨xP8, d08, d18, d28⟩ (fun hHeld => ?_)
        clear hK K
        try simp only [Act.put, List.getElem_toArray, List.getElem_cons_zero, List.getElem_cons_succ, List.setIfInBounds_toArray, List.set_cons_zero, List.set_cons_succ]
        first
          | (refine wpAnyH_take (i := 18) (v := undef) rfl (by kernel_rfl) (by kernel_rfl) (by kernel_rfl) (fun _ _ _ h => h) (Or.inr ⟨by rfl, rfl⟩) (by assumption) ?_)
          | (refine wpAnyH_take (i := 18) (v := ?_) rfl (by kernel_rfl) (by kernel_rfl) (by kernel_rfl) (fun _ _ _ h => h) (Or.inl ⟨by rfl, ?_⟩) (by assumption) ?_
             rotate_left
             (intro w hSw
              (try dsimp only at hSw)
              (go_simp <;> with_reducible rfl)))
        try simp only [Act.put, List.getElem_toArray, List.getElem_cons_zero, List.getElem_cons_succ, List.setIfInBounds_toArray, List.set_cons_zero, List.set_cons_succ]
        refine wpAnyH_ready (rs := [19]) (by kernel_rfl) (by simp) ?_
        refine AllReadyH.cons (i := 19) (o := _) rfl (fun K hK => ?_) ?_
        rotate_left
        · exact AllReadyH.nil
        go_simp
        refine hK.out _ _ ⟨xP9, d09, d19, d29⟩ (fun hHeld => ?_)
        clear hK K
        try simp only [Act.put, List.getElem_toArray, List.getElem_cons_zero, List.getElem_cons_succ, List.setIfInBounds_toArray, List.set_cons_zero, List.set_cons_succ]
        refine wpAnyH_done (by kernel_rfl) ?_ _
        go_wp2_with fail
        go_roundw
        case rel => exact ⟨i + 1, by omega, by go_num, F9⟩
        case measure => simp [intOf]; omega
      refine AllReadyH.cons (i := 14) (o := _) rfl (fun K hK => ?_) ?_
      rotate_left
      · exact AllReadyH.nil
      go_simp
      refine ar.out.mono ?_
      rintro e w6 ⟨⟨v', rfl, t6⟩, g6'⟩
      obtain ⟨va, vc, rfl, _⟩ := id t6
      have g6 := (Chg.refl (fun _ => False) w5).drew.trans g6'
      have xP6 := g6.cell (fun h => h) xP
      have d06 := g6.cell (fun h => h) d0
      have d16 := g6.cell (fun h => h) d1
      have d26 := g6.cell (fun h => h) d2
      have zO6 := g6.cell (fun h => h) zO
      have G7 := al w6 (.cells #[.string nm, .slice va kk.len vc, .int .i64 kb] 65)
      have xP7 := G7.cell (fun h => h) xP6
      have d07 := G7.cell (fun h => h) d06
      have d17 := G7.cell (fun h => h) d16
      have d27 := G7.cell (fun h => h) d26
      have zO7 := G7.cell (fun h => h) zO6
      have HT7 := hide (G7.blk (fun h => h) (g6.blk (fun h => h) HT5.out))
      have A7 := hide (own_chg (own_chg A5.out g6 (fun x hx h => h)) G7 (fun x hx h => h))
      have M7 := (M5.out.chg g6 (fun _ _ _ _ h => h)).chg G7 (fun _ _ _ _ h => h)
      have C7 := hide ((C5.out.trans g6.none).trans G7.none)
      have T7 := (t6.chg G7 (fun _ _ h => h)).up (Y := fun x => bo ≤ x ∧ x < (w6.alloc (.cells #[.string nm, .slice va kk.len vc, .int .i64 kb] 65)).heap.size ∧ u.ownBlock ≠ some x) (fun x hx => ⟨Nat.le_trans Z5.out hx.1, Nat.lt_of_lt_of_le hx.2 G7.size, fun e => by have h1 := (RL.out x e).2; have h3 : w5.heap.size ≤ x := hx.1; omega⟩)
      have N7 := hide (SN.out _ _ M7 T7)
      have Z7 := hide (Nat.le_trans Z5.out (Nat.le_trans g6.size G7.size))
      have NB := hide (World.news_of_block (cs := #[.string nm, .slice va kk.len vc, .int .i64 kb]) (t := 65) (fr := (0, 0)) (heap_alloc_new w6 _))
      clear t6 g6 g6' G7 M7 T7
      go_simp
      refine hK.out _ _ ⟨xP6, d06, d16, d26⟩ (fun hHeld => ?_)
      clear hK K
      try simp only [Act.put, List.getElem_toArray, List.getElem_cons_zero, List.getElem_cons_succ, List.setIfInBounds_toArray, List.set_cons_zero, List.set_cons_succ]
      first
        | (refine wpAnyH_take (i := 15) (v := undef) rfl (by kernel_rfl) (by kernel_rfl) (by kernel_rfl) (fun _ _ _ h => h) (Or.inr ⟨by rfl, rfl⟩) (by assumption) ?_)
        | (refine wpAnyH_take (i := 15) (v := ?_) rfl (by kernel_rfl) (by kernel_rfl) (by kernel_rfl) (fun _ _ _ h => h) (Or.inl ⟨by rfl, ?_⟩) (by assumption) ?_
           rotate_left
           (intro w hSw
            (try dsimp only at hSw)
            (go_simp <;> with_reducible rfl)))
      try simp only [Act.put, List.getElem_toArray, List.getElem_cons_zero, List.getElem_cons_succ, List.setIfInBounds_toArray, List.set_cons_zero, List.set_cons_succ]
      refine wpAnyH_ready (rs := [1, 16]) (by kernel_rfl) (by simp) ?_
      refine AllReadyH.cons (i := 1) (o := _) rfl (fun K hK => ?_) ?_
      · go_simp
        refine hK.out _ _ ⟨xP6, d06, d16, d26⟩ (fun hHeld => ?_)
        clear hK K
        try simp only [Act.put, List.getElem_toArray, List.getElem_cons_zero, List.getElem_cons_succ, List.setIfInBounds_toArray, List.set_cons_zero, List.set_cons_succ]
        refine wpAnyH_ready (rs := [16]) (by kernel_rfl) (by simp) ?_
        refine AllReadyH.cons (i := 16) (o := _) rfl (fun K hK => ?_) ?_
        rotate_left
        · exact AllReadyH.nil
        go_simp
        refine hK.out _ _ ⟨xP7, d07, d17, d27⟩ (fun hHeld => ?_)
        clear hK K
        try simp only [Act.put, List.getElem_toArray, List.getElem_cons_zero, List.getElem_cons_succ, List.setIfInBounds_toArray, List.set_cons_zero, List.set_cons_succ]
        refine wpAnyH_ready (rs := [17]) (by kernel_rfl) (by simp) ?_
        refine AllReadyH.cons (i := 17) (o := _) rfl (fun K hK => ?_) ?_
        rotate_left
        · exact AllReadyH.nil
        refine step_append_lies _ (by rfl) _ _ _ (by rfl) bo 65 i0 (.agg #[.string ⟨#[]⟩, .slice none 0 0, .int .i64 0]) 3 48 Tryd.underlying37 hi0 hz0 hz1 hz2 rfl (by omega) _ us.length (cellsC us) (by rfl) A7.out ⟨w6.heap.size, 0, none⟩ 1 1 [.string nm, .slice va kk.len vc, .int .i64 kb] (by rfl) (by rfl) NB.out (by simp [Value.oneCell']) (by omega) (by simp [maxLen]; omega) (by omega) Z7.out (w6.heap.size + 1) (by simp) ?_
        intro gg cap2 w8 hown hgrow hgat hglt
        have GR := (Chg.refl (fun x => u.ownBlock = some x) (w6.alloc (.cells #[.string nm, .slice va kk.len vc, .int .i64 kb] 65))).grown hgrow (fun r e => Or.inl e)
        have nO : ¬ u.ownBlock = some O := fun e => by have := (RL.out O e).1; have := HO.out; omega
        have T8 := GR.blk nO HT7.out
        have zO8 := blk_cell T8 1
        have fO8 := blk_free T8 1
        simp only [List.getElem?_toArray, List.getElem?_cons_zero, List.getElem?_cons_succ] at zO8
        have xP8 := GR.cell (fun e => (lO.out.2.2 P e).1 rfl) xP7
        have d08 := GR.cell (fun e => (lO.out.2.2 g e).2 rfl) d07
        have d18 := GR.cell (fun e => (lO.out.2.2 g e).2 rfl) d17
        have d28 := GR.cell (fun e => (lO.out.2.2 g e).2 rfl) d27
        have M8 := N7.out.grown hgrow (u' := .slice (some ⟨gg, 0, none⟩) (us.length + 1) cap2) (by rcases hgat with h | h; exact Or.inl (by rw [h]; rfl); exact Or.inr (by rw [h, al_sz]; rfl))
        have G9 := Chg.set w8 O 1 (.slice (some ⟨gg, 0, none⟩) (us.length + 1) cap2)
        have T9 : Hid ((w8.setCell ⟨O, 1, none⟩ (.slice (some ⟨gg, 0, none⟩) (us.length + 1) cap2)).heap[O]? = some (.cells #[.slice ba bn bc, .slice (some ⟨gg, 0, none⟩) (us.length + 1) cap2] 39)) := hide (blk_set T8 1 (.slice (some ⟨gg, 0, none⟩) (us.length + 1) cap2))
        have A9 := hide (caccT_snoc (own_chg hown G9 (fun x hx e => by have := HO.out; omega)))
        have M9 := hide (M8.chg G9 (fun x hx _ _ e => by have := HO.out; omega))
        have Z9 := hide (Nat.le_trans Z7.out (Nat.le_trans GR.size G9.size))
        have C9 : Hid (Chg (fun x => x = O) w1 (w8.setCell ⟨O, 1, none⟩ (.slice (some ⟨gg, 0, none⟩) (us.length + 1) cap2))) := hide (by
          have h1 : Chg (fun x => x = O ∨ bo ≤ x) w1 _ := ((C7.out.mono (fun x _ h => Or.inl h)).trans (GR.mono (fun x _ h => Or.inr (RL.out x h).1))).trans (G9.mono (fun x _ h => Or.inl h))
          exact h1.mono (fun x hx h => by have := HS.out; omega))
        have xP9 := G9.cell (lO.out.1) xP8
        have d09 := G9.cell (lO.out.2.1) d08
        have d19 := G9.cell (lO.out.2.1) d18
        have d29 := G9.cell (lO.out.2.1) d28
        have HL9 : Hid ((us ++ [(nm, (Value.slice va kk.len vc), kb)]).length = i + 1) := hide (by rw [List.length_append, HUL.out]; rfl)
        have F9 : Hid (VInvT 39 65 w1 (w8.setCell ⟨O, 1, none⟩ (.slice (some ⟨gg, 0, none⟩) (us.length + 1) cap2)) O bo (.slice ba bn bc) (cs) (i + 1)) := hide ⟨_, us ++ [(nm, .slice va kk.len vc, kb)], T9, A9, HL9, M9, Z9, C9⟩
        clear GR T8 M8 G9 hown hgrow hgat nO T9 A9 HL9 M9 Z9 C9
        refine hK.out _ _ ⟨xP8, d08, d18, d28⟩ (fun hHeld => ?_)
        clear hK K
        try simp only [Act.put, List.getElem_toArray, List.getElem_cons_zero, List.getElem_cons_succ, List.setIfInBounds_toArray, List.set_cons_zero, List.set_cons_succ]
        first
          | (refine wpAnyH_take (i := 18) (v := undef) rfl (by kernel_rfl) (by kernel_rfl) (by kernel_rfl) (fun _ _ _ h => h) (Or.inr ⟨by rfl, rfl⟩) (by assumption) ?_)
          | (refine wpAnyH_take (i := 18) (v := ?_) rfl (by kernel_rfl) (by kernel_rfl) (by kernel_rfl) (fun _ _ _ h => h) (Or.inl ⟨by rfl, ?_⟩) (by assumption) ?_
             rotate_left
             (intro w hSw
              (try dsimp only at hSw)
              (go_simp <;> with_reducible rfl)))
        try simp only [Act.put, List.getElem_toArray, List.getElem_cons_zero, List.getElem_cons_succ, List.setIfInBounds_toArray, List.set_cons_zero, List.set_cons_succ]
        refine wpAnyH_ready (rs := [19]) (by kernel_rfl) (by simp) ?_
        refine AllReadyH.cons (i := 19) (o := _) rfl (fun K hK => ?_) ?_
        rotate_left
        · exact AllReadyH.nil
        go_simp
        refine hK.out _ _ ⟨xP9, d09, d19, d29⟩ (fun hHeld => ?_)
        clear hK K
        try simp only [Act.put, List.getElem_toArray, List.getElem_cons_zero, List.getElem_cons_succ, List.setIfInBounds_toArray, List.set_cons_zero, List.set_cons_succ]
        refine wpAnyH_done (by kernel_rfl) ?_ _
        go_wp2_with fail
        go_roundw
        case rel => exact ⟨i + 1, by omega, by go_num, F9⟩
        case measure => simp [intOf]; omega
      refine AllReadyH.cons (i := 16) (o := _) rfl (fun K hK => ?_) ?_
      rotate_left
      · exact AllReadyH.nil
      go_simp
      refine hK.out _ _ ⟨xP7, d07, d17, d27⟩ (fun hHeld => ?_)
      clear hK K
      try simp only [Act.put, List.getElem_toArray, List.getElem_cons_zero, List.getElem_cons_succ, List.setIfInBounds_toArray, List.set_cons_zero, List.set_cons_succ]
      refine wpAnyH_ready (rs := [1]) (by kernel_rfl) (by simp) ?_
      refine AllReadyH.cons (i := 1) (o := _) rfl (fun K hK => ?_) ?_
      rotate_left
      · exact AllReadyH.nil
      go_simp
      refine hK.out _ _ ⟨xP7, d07, d17, d27⟩ (fun hHeld => ?_)
      clear hK K
      try simp only [Act.put, List.getElem_toArray, List.getElem_cons_zero, List.getElem_cons_succ, List.setIfInBounds_toArray, List.set_cons_zero, List.set_cons_succ]
      refine wpAnyH_ready (rs := [17]) (by kernel_rfl) (by simp) ?_
      refine AllReadyH.cons (i := 17) (o := _) rfl (fun K hK => ?_) ?_
      rotate_left
      · exact AllReadyH.nil
      refine step_append_lies _ (by rfl) _ _ _ (by rfl) bo 65 i0 (.agg #[.string ⟨#[]⟩, .slice none 0 0, .int .i64 0]) 3 48 Tryd.underlying37 hi0 hz0 hz1 hz2 rfl (by omega) _ us.length (cellsC us) (by rfl) A7.out ⟨w6.heap.size, 0, none⟩ 1 1 [.string nm, .slice va kk.len vc, .int .i64 kb] (by rfl) (by rfl) NB.out (by simp [Value.oneCell']) (by omega) (by simp [maxLen]; omega) (by omega) Z7.out (w6.heap.size + 1) (by simp) ?_
      intro gg cap2 w8 hown hgrow hgat hglt
      have GR := (Chg.refl (fun x => u.ownBlock = some x) (w6.alloc (.cells #[.string nm, .slice va kk.len vc, .int .i64 kb] 65))).grown hgrow (fun r e => Or.inl e)
      have nO : ¬ u.ownBlock = some O := fun e => by have := (RL.out O e).1; have := HO.out; omega
      have T8 := GR.blk nO HT7.out
      have zO8 := blk_cell T8 1
      have fO8 := blk_free T8 1
      simp only [List.getElem?_toArray, List.getElem?_cons_zero, List.getElem?_cons_succ] at zO8
      have xP8 := GR.cell (fun e => (lO.out.2.2 P e).1 rfl) xP7
      have d08 := GR.cell (fun e => (lO.out.2.2 g e).2 rfl) d07
      have d18 := GR.cell (fun e => (lO.out.2.2 g e).2 rfl) d17
      have d28 := GR.cell (fun e => (lO.out.2.2 g e).2 rfl) d27
      have M8 := N7.out.grown hgrow (u' := .slice (some ⟨gg, 0, none⟩) (us.length + 1) cap2) (by rcases hgat with h | h; exact Or.inl (by rw [h]; rfl); exact Or.inr (by rw [h, al_sz]; rfl))
      have G9 := Chg.set w8 O 1 (.slice (some ⟨gg, 0, none⟩) (us.length + 1) cap2)
      have T9 : Hid ((w8.setCell ⟨O, 1, none⟩ (.slice (some ⟨gg, 0, none⟩) (us.length + 1) cap2)).heap[O]? = some (.cells #[.slice ba bn bc, .slice (some ⟨gg, 0, none⟩) (us.length + 1) cap2] 39)) := hide (blk_set T8 1 (.slice (some ⟨gg, 0, none⟩) (us.length + 1) cap2))
      have A9 := hide (caccT_snoc (own_chg hown G9 (fun x hx e => by have := HO.out; omega)))
      have M9 := hide (M8.chg G9 (fun x hx _ _ e => by have := HO.out; omega))
      have Z9 := hide (Nat.le_trans Z7.out (Nat.le_trans GR.size G9.size))
      have C9 : Hid (Chg (fun x => x = O) w1 (w8.setCell ⟨O, 1, none⟩ (.slice (some ⟨gg, 0, none⟩) (us.length + 1) cap2))) := hide (by
        have h1 : Chg (fun x => x = O ∨ bo ≤ x) w1 _ := ((C7.out.mono (fun x _ h => Or.inl h)).trans (GR.mono (fun x _ h => Or.inr (RL.out x h).1))).trans (G9.mono (fun x _ h => Or.inl h))
        exact h1.mono (fun x hx h => by have := HS.out; omega))
      have xP9 := G9.cell (lO.out.1) xP8
      have d09 := G9.cell (lO.out.2.1) d08
      have d19 := G9.cell (lO.out.2.1) d18
      have d29 := G9.cell (lO.out.2.1) d28
      have HL9 : Hid ((us ++ [(nm, (Value.slice va kk.len vc), kb)]).length = i + 1) := hide (by rw [List.length_append, HUL.out]; rfl)
      have F9 : Hid (VInvT 39 65 w1 (w8.setCell ⟨O, 1, none⟩ (.slice (some ⟨gg, 0, none⟩) (us.length + 1) cap2)) O bo (.slice ba bn bc) (cs) (i + 1)) := hide ⟨_, us ++ [(nm, .slice va kk.len vc, kb)], T9, A9, HL9, M9, Z9, C9⟩
      clear GR T8 M8 G9 hown hgrow hgat nO T9 A9 HL9 M9 Z9 C9
      refine hK.out _ _ ⟨xP8, d08, d18, d28⟩ (fun hHeld => ?_)
      clear hK K
      try simp only [Act.put, List.getElem_toArray, List.getElem_cons_zero, List.getElem_cons_succ, List.setIfInBounds_toArray, List.set_cons_zero, List.set_cons_succ]
      first
        | (refine wpAnyH_take (i := 18) (v := undef) rfl (by kernel_rfl) (by kernel_rfl) (by kernel_rfl) (fun _ _ _ h => h) (Or.inr ⟨by rfl, rfl⟩) (by assumption) ?_)
        | (refine wpAnyH_take (i := 18) (v := ?_) rfl (by kernel_rfl) (by kernel_rfl) (by kernel_rfl) (fun _ _ _ h => h) (Or.inl ⟨by rfl, ?_⟩) (by assumption) ?_
           rotate_left
           (intro w hSw
            (try dsimp only at hSw)
            (go_simp <;> with_reducible rfl)))
      try simp only [Act.put, List.getElem_toArray, List.getElem_cons_zero, List.getElem_cons_succ, List.setIfInBounds_toArray, List.set_cons_zero, List.set_cons_succ]
      refine wpAnyH_ready (rs := [19]) (by kernel_rfl) (by simp) ?_
      refine AllReadyH.cons (i := 19) (o := _) rfl (fun K hK => ?_) ?_
      rotate_left
      · exact AllReadyH.nil
      go_simp
      refine hK.out _ _ ⟨xP9, d09, d19, d29⟩ (fun hHeld => ?_)
      clear hK K
      try simp only [Act.put, List.getElem_toArray, List.getElem_cons_zero, List.getElem_cons_succ, List.setIfInBounds_toArray, List.set_cons_zero, List.set_cons_succ]
      refine wpAnyH_done (by kernel_rfl) ?_ _
      go_wp2_with fail
      go_roundw
      case rel => exact ⟨i + 1, by omega, by go_num, F9⟩
      case measure => simp [intOf]; omega
    · have hif : i = cs.length := by omega
      have BRr := hC.out.blk (by have := HO.out; omega) BR.out
      have zO := blk_cell hT.out 0
      have zO1 := blk_cell hT.out 1
      have cR0 := blk_cell BRr 0
      have cR1 := blk_cell BRr 1
      have fR0 := blk_free BRr 0
      have fR1 := blk_free BRr 1
      simp only [List.getElem?_toArray, List.getElem?_cons_zero, List.getElem?_cons_succ] at zO zO1 cR0 cR1
      obtain ⟨ua, uc, hue⟩ : ∃ ua uc, u = .slice ua us.length uc := by
        rcases (show wr.ownsRow bo 65 3 u us.length (cellsC us) from hA.out).2 with ⟨h1, h2⟩ | ⟨g, cap2, cur, h1, _⟩
        · exact ⟨_, _, by rw [h1, h2]⟩
        · exact ⟨_, _, h1⟩
      have T1 := blk_set BRr 0 (.slice ba bn bc)
      have T2 := blk_set T1 1 u
      have S1 := Chg.set wr R 0 (.slice ba bn bc)
      have S2 := Chg.set (wr.setCell ⟨R, 0, none⟩ (.slice ba bn bc)) R 1 u
      have SS := S1.trans S2
      have AF := own_chg (show wr.ownsRow bo 65 3 u us.length (cellsC us) from hA.out) SS (fun x hx e => by have := HO.out; omega)
      have MF := hM.out.chg SS (fun x hx _ _ e => by have := HO.out; omega)
      have CF : Chg (fun _ => False) w ((wr.setCell ⟨R, 0, none⟩ (.slice ba bn bc)).setCell ⟨R, 1, none⟩ u) := by
        have h1 : Chg (fun x => x = O ∨ x = R) w _ := (GG.out.none.trans (hC.out.mono (fun x _ h => Or.inl h))).trans (SS.mono (fun x _ h => Or.inr h))
        exact h1.mono (fun x hx h => by have := HO.out; omega)
      have F : Hid (Cns ((wr.setCell ⟨R, 0, none⟩ (.slice ba bn bc)).setCell ⟨R, 1, none⟩ u) (fun x => w.heap.size ≤ x ∧ x < ((wr.setCell ⟨R, 0, none⟩ (.slice ba bn bc)).setCell ⟨R, 1, none⟩ u).heap.size) u (cs) ∧ Chg (fun _ => False) w ((wr.setCell ⟨R, 0, none⟩ (.slice ba bn bc)).setCell ⟨R, 1, none⟩ u)) := hide ⟨caccT_cns AF (fun r e => by have h1 := World.ownsRow.lt AF r e; have := HO.out; exact ⟨by omega, h1.2⟩) HCS.out (by rw [hL.out, hif]) (fun j h1 h2 => ⟨(MF.2 j h1 h2).1, (MF.2 j h1 h2).2.1, (MF.2 j h1 h2).2.2.up (fun x hx => ⟨by have := HO.out; omega, hx.2.1⟩)⟩), CF⟩
      have z0 : ((wr.setCell ⟨R, 0, none⟩ (.slice ba bn bc)).setCell ⟨R, 1, none⟩ u).cell? ⟨R, 0, none⟩ = some (.slice ba bn bc) := blk_cell T2 0
      have z1 : ((wr.setCell ⟨R, 0, none⟩ (.slice ba bn bc)).setCell ⟨R, 1, none⟩ u).cell? ⟨R, 1, none⟩ = some u := blk_cell T2 1
      subst hue
      subst hif
      clear T1 T2 S1 S2 SS AF MF CF hT hA hL hM hZ hC BRr
      go_wp2_with fail
      generalize hwf : ((wr.setCell ⟨R, 0, none⟩ (.slice ba bn bc)).setCell ⟨R, 1, none⟩ (.slice ua us.length uc)) = wF at *
      refine bodyPost_ret (fn := Tryd.f12) (v := .agg #[.slice ba bn bc, .slice ua us.length uc]) (by simp [results, Tryd.results12, go_sem, z0, z1]) rfl ?_
      exact ⟨⟨_, rfl, F.out.1⟩, F.out.2⟩

set_option maxRecDepth 100000 in
set_option maxHeartbeats 32000000 in
theorem toT_any (cs : List Cn) (bn : Nat) (ba : Option Addr) (bc : Nat) (hbc : bn ≤ bc) (hba : ba = none → bn = 0 ∧ bc = 0) (cv : Value) (hnm : ∀ c ∈ cs, c.1.size ≤ maxLen) (X : Nat → Prop) (w : World) (hX : ∀ x, X x → x < w.heap.size) (hc : CnsI w X cv cs) :
    Calls Tryd.prog 11 #[.agg #[.slice ba bn bc, cv]] w fun e w' => (∃ cv', e = .returned (.agg #[.slice ba (min bn 30) bc, cv']) ∧ Cns w' (fun x => w.heap.size ≤ x ∧ x < w'.heap.size) cv' (toCs cs)) ∧ Chg (fun _ => False) w w' := by
  obtain ⟨i0, hi0, hz0, hz1, hz2⟩ := info_parts info32
  obtain ⟨ca, cc, rfl, _⟩ := id hc
  have HNM := hide hnm
  have G1 := al w (.cells #[.slice ba bn bc, .slice ca cs.length cc] 39)
  have G2 := al (w.alloc (.cells #[.slice ba bn bc, .slice ca cs.length cc] 39)) (.cells #[.slice none 0 0, .slice none 0 0] 26)
  have G3 := al ((w.alloc (.cells #[.slice ba bn bc, .slice ca cs.length cc] 39)).alloc (.cells #[.slice none 0 0, .slice none 0 0] 26)) (.cells #[.slice ba (min bn 30) bc, .slice none 0 0] 26)
  have b0 := blk_new w (.cells #[.slice ba bn bc, .slice ca cs.length cc] 39)
  have b1 := blk_new (w.alloc (.cells #[.slice ba bn bc, .slice ca cs.length cc] 39)) (.cells #[.slice none 0 0, .slice none 0 0] 26)
  have b2 := blk_new ((w.alloc (.cells #[.slice ba bn bc, .slice ca cs.length cc] 39)).alloc (.cells #[.slice none 0 0, .slice none 0 0] 26)) (.cells #[.slice ba (min bn 30) bc, .slice none 0 0] 26)
  have b0' := G3.blk (fun h => h) (G2.blk (fun h => h) b0)
  have b1' := G3.blk (fun h => h) b1
  rw [al_sz, al_sz] at b2
  rw [al_sz] at b1'
  have GG := hide (G1.trans (G2.trans G3))
  have sz3 : (((w.alloc (.cells #[.slice ba bn bc, .slice ca cs.length cc] 39)).alloc (.cells #[.slice none 0 0, .slice none 0 0] 26)).alloc (.cells #[.slice ba (min bn 30) bc, .slice none 0 0] 26)).heap.size = w.heap.size + 3 := by rw [al_sz, al_sz, al_sz]
  have BX := hide b0'
  have BR := hide b1'
  have BO := hide b2
  have SZ := hide sz3
  have HX := hide hX
  have HCV := hide hc
  clear G1 G2 G3 hc sz3 hX b0 b1 b2 b0' b1'
  go_enter Tryd.func11, Tryd.ntmps11
  go_wp2_with fail
  have hmn : (min (bn : Int) 30).toNat = min bn 30 := by omega
  rw [hmn]
  generalize (((w.alloc (.cells #[.slice ba bn bc, .slice ca cs.length cc] 39)).alloc (.cells #[.slice none 0 0, .slice none 0 0] 26)).alloc (.cells #[.slice ba (min bn 30) bc, .slice none 0 0] 26)) = w1 at *
  obtain ⟨P, hP⟩ : ∃ P, w.heap.size = P := ⟨_, rfl⟩
  have HP := hide hP
  rw [hP] at BX BR BO ⊢
  obtain ⟨R, hR⟩ : ∃ R, P + 1 = R := ⟨_, rfl⟩
  rw [hR] at BR BO ⊢
  obtain ⟨O, hO⟩ : ∃ O, R + 1 = O := ⟨_, rfl⟩
  rw [hO] at BO ⊢
  obtain ⟨bo, hbo⟩ : ∃ bo, w1.heap.size = bo := ⟨_, rfl⟩
  have HS := hide hbo
  have HO : Hid (O < bo ∧ R < O ∧ w.heap.size < R ∧ P < R ∧ P = w.heap.size) := hide (by have := SZ.out; refine ⟨by omega, by omega, by omega, by omega, by omega⟩)
  clear hR hO hbo SZ hP
  go_loopw [4] (fun iv wr => ∃ (i : Nat), i ≤ (toCs cs).length ∧ iv = .int .i64 i ∧ Hid (VInvT 26 32 w1 wr O bo (.slice ba (min bn 30) bc) (toCs cs) i)) (fun iv _ => (toCs cs).length - (intOf iv).toNat)
  case atStart => exact ⟨0, Nat.zero_le _, rfl, _, [], BO, ⟨rfl, Or.inl ⟨rfl, rfl⟩⟩, rfl, Same2.nil _ _ _ _, Nat.le_of_eq HS.out.symm, Chg.refl _ _⟩
  case round =>
    clear BO
    obtain ⟨i, hi, rfl, hIN⟩ := hrel
    obtain ⟨u, us, hT, hA, hL, hM, hZ, hC⟩ := hIN.out
    clear hIN
    have BXr := hC.out.blk (by have := HO.out; omega) BX.out
    have xP := blk_cell BXr 1
    have xP0 := blk_cell BXr 0
    simp only [List.getElem?_toArray, List.getElem?_cons_zero, List.getElem?_cons_succ] at xP xP0
    clear BXr
    have hus : us.length ≤ 1000 := by have := hL.out; have := toCs_len cs; omega
    by_cases hlt : i < (toCs cs).length
    · have TL := toCs_len cs
      have hlc : i < cs.length := by omega
      have nO : ∀ x, X x → ¬ x = O := fun x hx e => by have := HX.out x hx; have := HO.out; omega
      have WC : Chg (fun x => x = O) w wr := GG.out.none.trans hC.out
      obtain ⟨la, lc, hlv, hl⟩ := HCV.out.chg WC nO
      rcases hl with h0 | ⟨g, off, rfl, hg, hl⟩
      · rw [h0] at hlc; exact absurd hlc (Nat.not_lt_zero _)
      injection hlv with e1 e2 e3
      subst e1
      subst e3
      clear e2
      obtain ⟨d0, ⟨vi, d1, ti⟩, d2⟩ := hl i hlc
      obtain ⟨ka0, kc0, rfl, _⟩ := id ti
      have i1 : (0 : Int) ≤ (i : Int) := by omega
      have i2 : (i : Int) < (cs.length : Int) := by omega
      have i3 : (i : Int) < 30 := by omega
      have i4 : i < 30 := by omega
      have TI := hide (toCs_at cs i hlt hlc)
      have RL := hide (fun r (e : u.ownBlock = some r) => World.ownsRow.lt (show wr.ownsRow bo 32 3 u us.length (cellsC us) from hA.out) r e)
      have SN := hide (fun (w' : World) (v' : Value) (kk : Fs) (kb : Int) (hk : toC cs[i] = (cs[i].1, kk, kb)) (h : Same2 w' bo u (toCs cs) us) (hv' : Ts w' (fun x => bo ≤ x ∧ x < w'.heap.size ∧ u.ownBlock ≠ some x) v' kk) => h.snoc (s := cs[i].1) (b := kb) hlt hL.out (by rw [TI.out, hk]) (by rw [TI.out, hk]) (by rw [TI.out, hk]; exact hv'))
      have lO : Hid (P ≠ O ∧ g ≠ O ∧ (∀ r, u.ownBlock = some r → P ≠ r ∧ g ≠ r)) := hide (by
        have h1 := HX.out g hg
        have h2 := HO.out
        have h3 := HS.out
        refine ⟨by omega, by omega, fun r e => ?_⟩
        have := (RL.out r e).1
        exact ⟨by omega, by omega⟩)
      have gA : Hid (g ≠ wr.heap.size ∧ P ≠ wr.heap.size ∧ O ≠ wr.heap.size) := hide (by
        have h1 := HX.out g hg
        have h2 := HO.out
        have h3 := HS.out
        have h4 := hZ.out
        refine ⟨by omega, by omega, by omega⟩)
      have HUL := hide hL.out
      have SK := hide (toC_size cs[i])
      have XA : Hid (∀ x, X x → x < wr.heap.size) := hide (fun x hx => by have := HX.out x hx; have := WC.size; omega)
      have ti0 := hide ti
      have Z0 := hZ
      have b5 := blk_new wr (.cells #[.slice ka0 cs[i].2.1.len kc0, .int .i64 cs[i].2.2] 63)
      have G5 := hide (al wr (.cells #[.slice ka0 cs[i].2.1.len kc0, .int .i64 cs[i].2.2] 63))
      have fc := hide (Few_any 100 70 (by decide) (by decide) (by decide) cs[i].2.1 (.slice ka0 cs[i].2.1.len kc0) cs[i].2.2 X (wr.alloc (.cells #[.slice ka0 cs[i].2.1.len kc0, .int .i64 cs[i].2.2] 63)) (fun x hx => Nat.lt_of_lt_of_le (XA.out x hx) G5.out.size) (ti.chg G5.out (fun _ _ h => h)))
      have SZA := hide (al_size wr (.cells #[.slice ka0 cs[i].2.1.len kc0, .int .i64 cs[i].2.2] 63))
      clear hl hg WC nO ti TI TL
      have HTO : toC cs[i] = if fewT 100 70 cs[i].2.1 ≤ 100 then cs[i] else (cs[i].1, .nil, 0) := rfl
      generalize cs[i] = c at *
      obtain ⟨nm, k0, b0⟩ := c
      dsimp only at d0 d1 d2 ti0 SN SK b5 G5 fc SZA HTO
      have HTO := hide HTO
      obtain ⟨q, hq⟩ : ∃ q, decide (fewT 100 70 k0 ≤ 100) = q := ⟨_, rfl⟩
      rw [hq] at fc
      have HQ := hide hq
      clear hq
      go_wp2_with fail
      have y0 := blk_cell b5 0
      have y1 := blk_cell b5 1
      simp only [List.getElem?_toArray, List.getElem?_cons_zero, List.getElem?_cons_succ] at y0 y1
      have hb5 := hide b5
      clear b5
      obtain ⟨A, hAA⟩ : ∃ A, wr.heap.size = A := ⟨_, rfl⟩
      rw [hAA] at RL gA XA y0 y1 hb5 ⊢
      have HA := hide hAA
      clear hAA d1 d2
      refine fc.out.mono ?_
      rintro e w6 ⟨rfl, g6⟩
      have GX := hide (G5.out.trans g6)
      have hb6 := hide (g6.blk (fun h => h) hb5.out)
      have SA6 : Hid (A < w6.heap.size) := hide (by have h1 := SZA.out; have h2 := g6.size; have h3 := HA.out; omega)
      clear g6 y0 y1
      cases q with
      | true =>
        go_wp2_with fail
        have KEY : ∃ (ka : Option Addr) (kc : Nat) (kk : Fs) (kb : Int), Hid (w6.heap[A]? = some (.cells #[.slice ka kk.len kc, .int .i64 kb] 63)) ∧ Hid (Ts w6 X (.slice ka kk.len kc) kk) ∧ Hid (kk.size ≤ 99) ∧ Hid (toC (nm, k0, b0) = (nm, kk, kb)) ∧ Hid (Chg (fun x => x = A) wr w6) := ⟨ka0, kc0, k0, b0, hb6, hide (ti0.out.chg GX.out (fun _ _ h => h)), hide (by
          have h1 := SK.out
          rw [HTO.out, if_pos (of_decide_eq_true HQ.out)] at h1
          exact h1), hide (by rw [HTO.out, if_pos (of_decide_eq_true HQ.out)]), hide GX.out.none⟩
        obtain ⟨ka, kc, kk, kb, hA5, ti5, KS, KT, GX5⟩ := KEY
        have SA := SA6
        have xP' := GX5.out.cell gA.out.2.1 xP
        have d0' := GX5.out.cell gA.out.1 d0
        have HT5 := hide (GX5.out.blk gA.out.2.2 hT.out)
        have A5 := hide (own_chg2 (show wr.ownsRow bo 32 3 u us.length (cellsC us) from hA.out) GX5.out (fun x hx e => by have := (RL.out x hx).2; omega))
        have M5 := hide (hM.out.chg GX5.out (fun x _ hx _ e => by have := HA.out; omega))
        have Z5 : Hid (bo ≤ w6.heap.size) := hide (Nat.le_trans Z0.out GX5.out.size)
        have C5 : Hid (Chg (fun x => x = O) w1 w6) := hide (by
          have h1 : Chg (fun x => x = O ∨ x = A) w1 _ := (hC.out.mono (fun x _ h => Or.inl h)).trans (GX5.out.mono (fun x _ h => Or.inr h))
          exact h1.mono (fun x hx h => by have := HS.out; have := HA.out; have := Z0.out; omega))
        have BW : Hid (∀ x, X x → x < w6.heap.size) := hide (fun x hx => by have h1 := XA.out x hx; have h2 := GX5.out.size; have h3 := HA.out; omega)
        have ar := hide (to04_any kk (by have := KS.out; omega) (.slice ka kk.len kc) kb X w6.drew (fun x hx => Nat.lt_of_lt_of_le (BW.out x hx) (Chg.refl (fun _ => False) w6).drew.size) (ti5.out.chg ((Chg.refl (fun _ => False) w6).drew) (fun _ _ h => h)))
        have y0 := blk_cell hA5.out 0
        have y1 := blk_cell hA5.out 1
        have zO := blk_cell HT5.out 1
        simp only [List.getElem?_toArray, List.getElem?_cons_zero, List.getElem?_cons_succ] at y0 y1 zO
        have SN := hide (fun (w' : World) (v' : Value) (h : Same2 w' bo u (toCs cs) us) (hv' : Ts w' (fun x => bo ≤ x ∧ x < w'.heap.size ∧ u.ownBlock ≠ some x) v' kk) => SN.out w' v' kk kb KT.out h hv')
        clear hT hA hM hC xP d0 fc G5 GX5 hA5 hb6 hb5 GX
        generalize w6 = w5 at *
        have xP := xP'
        have d0 := d0'
        clear xP' d0'
        refine wp_region_held_drew (S := (fun w' => w'.cell? ⟨P, 1, none⟩ = some (.slice (some ⟨g, off, none⟩) cs.length cc) ∧ w'.cell? ⟨g, off + i * 3, none⟩ = some (.string nm) ∧ w'.cell? ⟨A, 0, none⟩ = some (.slice ka kk.len kc) ∧ w'.cell? ⟨A, 1, none⟩ = some (.int .i64 kb))) (by kernel_rfl) (by go_keep) (fun hHeld => ?_)
        first
          | (refine wpAnyH_take (i := 0) (v := undef) rfl (by kernel_rfl) (by kernel_rfl) (by kernel_rfl) (fun _ _ _ h => h) (Or.inr ⟨by rfl, rfl⟩) (by assumption) ?_)
          | (refine wpAnyH_take (i := 0) (v := ?_) rfl (by kernel_rfl) (by kernel_rfl) (by kernel_rfl) (fun _ _ _ h => h) (Or.inl ⟨by rfl, ?_⟩) (by assumption) ?_
             rotate_left
             (intro w hSw
              (try dsimp only at hSw)
              (go_simp <;> with_reducible rfl)))
        try simp only [Act.put, List.getElem_toArray, List.getElem_cons_zero, List.getElem_cons_succ, List.setIfInBounds_toArray, List.set_cons_zero, List.set_cons_succ]
        first
          | (refine wpAnyH_take (i := 2) (v := undef) rfl (by kernel_rfl) (by kernel_rfl) (by kernel_rfl) (fun _ _ _ h => h) (Or.inr ⟨by rfl, rfl⟩) (by assumption) ?_)
          | (refine wpAnyH_take (i := 2) (v := ?_) rfl (by kernel_rfl) (by kernel_rfl) (by kernel_rfl) (fun _ _ _ h => h) (Or.inl ⟨by rfl, ?_⟩) (by assumption) ?_
             rotate_left
             (intro w hSw
              (try dsimp only at hSw)
              (go_simp <;> with_reducible rfl)))
        try simp only [Act.put, List.getElem_toArray, List.getElem_cons_zero, List.getElem_cons_succ, List.setIfInBounds_toArray, List.set_cons_zero, List.set_cons_succ]
        first
          | (refine wpAnyH_take (i := 3) (v := undef) rfl (by kernel_rfl) (by kernel_rfl) (by kernel_rfl) (fun _ _ _ h => h) (Or.inr ⟨by rfl, rfl⟩) (by assumption) ?_)
          | (refine wpAnyH_take (i := 3) (v := ?_) rfl (by kernel_rfl) (by kernel_rfl) (by kernel_rfl) (fun _ _ _ h => h) (Or.inl ⟨by rfl, ?_⟩) (by assumption) ?_
             rotate_left
             (intro w hSw
              (try dsimp only at hSw)
              (go_simp <;> with_reducible rfl)))
        try simp only [Act.put, List.getElem_toArray, List.getElem_cons_zero, List.getElem_cons_succ, List.setIfInBounds_toArray, List.set_cons_zero, List.set_cons_succ]
        first
          | (refine wpAnyH_take (i := 4) (v := undef) rfl (by kernel_rfl) (by kernel_rfl) (by kernel_rfl) (fun _ _ _ h => h) (Or.inr ⟨by rfl, rfl⟩) (by assumption) ?_)
          | (refine wpAnyH_take (i := 4) (v := ?_) rfl (by kernel_rfl) (by kernel_rfl) (by kernel_rfl) (fun _ _ _ h => h) (Or.inl ⟨by rfl, ?_⟩) (by assumption) ?_
             rotate_left
             (intro w hSw
              (try dsimp only at hSw)
              (go_simp <;> with_reducible rfl)))
        try simp only [Act.put, List.getElem_toArray, List.getElem_cons_zero, List.getElem_cons_succ, List.setIfInBounds_toArray, List.set_cons_zero, List.set_cons_succ]
        first
          | (refine wpAnyH_take (i := 5) (v := undef) rfl (by kernel_rfl) (by kernel_rfl) (by kernel_rfl) (fun _ _ _ h => h) (Or.inr ⟨by rfl, rfl⟩) (by assumption) ?_)
          | (refine wpAnyH_take (i := 5) (v := ?_) rfl (by kernel_rfl) (by kernel_rfl) (by kernel_rfl) (fun _ _ _ h => h) (Or.inl ⟨by rfl, ?_⟩) (by assumption) ?_
             rotate_left
             (intro w hSw
              (try dsimp only at hSw)
              (go_simp <;> with_reducible rfl)))
        try simp only [Act.put, List.getElem_toArray, List.getElem_cons_zero, List.getElem_cons_succ, List.setIfInBounds_toArray, List.set_cons_zero, List.set_cons_succ]
        first
          | (refine wpAnyH_take (i := 6) (v := undef) rfl (by kernel_rfl) (by kernel_rfl) (by kernel_rfl) (fun _ _ _ h => h) (Or.inr ⟨by rfl, rfl⟩) (by assumption) ?_)
          | (refine wpAnyH_take (i := 6) (v := ?_) rfl (by kernel_rfl) (by kernel_rfl) (by kernel_rfl) (fun _ _ _ h => h) (Or.inl ⟨by rfl, ?_⟩) (by assumption) ?_
             rotate_left
             (intro w hSw
              (try dsimp only at hSw)
              (go_simp <;> with_reducible rfl)))
        try simp only [Act.put, List.getElem_toArray, List.getElem_cons_zero, List.getElem_cons_succ, List.setIfInBounds_toArray, List.set_cons_zero, List.set_cons_succ]
        first
          | (refine wpAnyH_take (i := 7) (v := undef) rfl (by kernel_rfl) (by kernel_rfl) (by kernel_rfl) (fun _ _ _ h => h) (Or.inr ⟨by rfl, rfl⟩) (by assumption) ?_)
          | (refine wpAnyH_take (i := 7) (v := ?_) rfl (by kernel_rfl) (by kernel_rfl) (by kernel_rfl) (fun _ _ _ h => h) (Or.inl ⟨by rfl, ?_⟩) (by assumption) ?_
             rotate_left
             (intro w hSw
              (try dsimp only at hSw)
              (go_simp <;> with_reducible rfl)))
        try simp only [Act.put, List.getElem_toArray, List.getElem_cons_zero, List.getElem_cons_succ, List.setIfInBounds_toArray, List.set_cons_zero, List.set_cons_succ]
        first
          | (refine wpAnyH_take (i := 8) (v := undef) rfl (by kernel_rfl) (by kernel_rfl) (by kernel_rfl) (fun _ _ _ h => h) (Or.inr ⟨by rfl, rfl⟩) (by assumption) ?_)
          | (refine wpAnyH_take (i := 8) (v := ?_) rfl (by kernel_rfl) (by kernel_rfl) (by kernel_rfl) (fun _ _ _ h => h) (Or.inl ⟨by rfl, ?_⟩) (by assumption) ?_
             rotate_left
             (intro w hSw
              (try dsimp only at hSw)
              (go_simp <;> with_reducible rfl)))
        try simp only [Act.put, List.getElem_toArray, List.getElem_cons_zero, List.getElem_cons_succ, List.setIfInBounds_toArray, List.set_cons_zero, List.set_cons_succ]
        refine wpAnyH_ready (rs := [1, 9]) (by kernel_rfl) (by simp) ?_
        refine AllReadyH.cons (i := 1) (o := _) rfl (fun K hK => ?_) ?_
        · go_simp
          refine hK.out _ _ ⟨xP, d0, y0, y1⟩ (fun hHeld => ?_)
          clear hK K
          try simp only [Act.put, List.getElem_toArray, List.getElem_cons_zero, List.getElem_cons_succ, List.setIfInBounds_toArray, List.set_cons_zero, List.set_cons_succ]
          refine wpAnyH_ready (rs := [9]) (by kernel_rfl) (by simp) ?_
          refine AllReadyH.cons (i := 9) (o := _) rfl (fun K hK => ?_) ?_
          rotate_left
          · exact AllReadyH.nil
          go_simp
          refine ar.out.mono ?_
          rintro e w6 ⟨⟨v', rfl, t6⟩, g6'⟩
          obtain ⟨va, vc, rfl, _⟩ := id t6
          have g6 := (Chg.refl (fun _ => False) w5).drew.trans g6'
          have xP6 := g6.cell (fun h => h) xP
          have d06 := g6.cell (fun h => h) d0
          have y06 := g6.cell (fun h => h) y0
          have y16 := g6.cell (fun h => h) y1
          have zO6 := g6.cell (fun h => h) zO
          have G7 := al w6 (.cells #[.string nm, .slice va kk.len vc, .int .i64 kb] 32)
          have xP7 := G7.cell (fun h => h) xP6
          have d07 := G7.cell (fun h => h) d06
          have y07 := G7.cell (fun h => h) y06
          have y17 := G7.cell (fun h => h) y16
          have zO7 := G7.cell (fun h => h) zO6
          have HT7 := hide (G7.blk (fun h => h) (g6.blk (fun h => h) HT5.out))
          have A7 := hide (own_chg (own_chg A5.out g6 (fun x hx h => h)) G7 (fun x hx h => h))
          have M7 := (M5.out.chg g6 (fun _ _ _ _ h => h)).chg G7 (fun _ _ _ _ h => h)
          have C7 := hide ((C5.out.trans g6.none).trans G7.none)
          have T7 := (t6.chg G7 (fun _ _ h => h)).up (Y := fun x => bo ≤ x ∧ x < (w6.alloc (.cells #[.string nm, .slice va kk.len vc, .int .i64 kb] 32)).heap.size ∧ u.ownBlock ≠ some x) (fun x hx => ⟨Nat.le_trans Z5.out hx.1, Nat.lt_of_lt_of_le hx.2 G7.size, fun e => by have h1 := (RL.out x e).2; have h3 : w5.heap.size ≤ x := hx.1; have := SA.out; have := HA.out; omega⟩)
          have N7 := hide (SN.out _ _ M7 T7)
          have Z7 := hide (Nat.le_trans Z5.out (Nat.le_trans g6.size G7.size))
          have NB := hide (World.news_of_block (cs := #[.string nm, .slice va kk.len vc, .int .i64 kb]) (t := 32) (fr := (0, 0)) (heap_alloc_new w6 _))
          clear t6 g6 g6' G7 M7 T7
          go_simp
          refine hK.out _ _ ⟨xP6, d06, y06, y16⟩ (fun hHeld => ?_)
          clear hK K
          try simp only [Act.put, List.getElem_toArray, List.getElem_cons_zero, List.getElem_cons_succ, List.setIfInBounds_toArray, List.set_cons_zero, List.set_cons_succ]
          first
            | (refine wpAnyH_take (i := 10) (v := undef) rfl (by kernel_rfl) (by kernel_rfl) (by kernel_rfl) (fun _ _ _ h => h) (Or.inr ⟨by rfl, rfl⟩) (by assumption) ?_)
            | (refine wpAnyH_take (i := 10) (v := ?_) rfl (by kernel_rfl) (by kernel_rfl) (by kernel_rfl) (fun _ _ _ h => h) (Or.inl ⟨by rfl, ?_⟩) (by assumption) ?_
               rotate_left
               (intro w hSw
                (try dsimp only at hSw)
                (go_simp <;> with_reducible rfl)))
          try simp only [Act.put, List.getElem_toArray, List.getElem_cons_zero, List.getElem_cons_succ, List.setIfInBounds_toArray, List.set_cons_zero, List.set_cons_succ]
          refine wpAnyH_ready (rs := [11]) (by kernel_rfl) (by simp) ?_
          refine AllReadyH.cons (i := 11) (o := _) rfl (fun K hK => ?_) ?_
          rotate_left
          · exact AllReadyH.nil
          go_simp
          refine hK.out _ _ ⟨xP7, d07, y07, y17⟩ (fun hHeld => ?_)
          clear hK K
          try simp only [Act.put, List.getElem_toArray, List.getElem_cons_zero, List.getElem_cons_succ, List.setIfInBounds_toArray, List.set_cons_zero, List.set_cons_succ]
          refine wpAnyH_ready (rs := [12]) (by kernel_rfl) (by simp) ?_
          refine AllReadyH.cons (i := 12) (o := _) rfl (fun K hK => ?_) ?_
          rotate_left
          · exact AllReadyH.nil
          refine step_append_lies _ (by rfl) _ _ _ (by rfl) bo 32 i0 (.agg #[.string ⟨#[]⟩, .slice none 0 0, .int .i64 0]) 3 48 Tryd.underlying24 hi0 hz0 hz1 hz2 rfl (by omega) _ us.length (cellsC us) (by rfl) A7.out ⟨w6.heap.size, 0, none⟩ 1 1 [.string nm, .slice va kk.len vc, .int .i64 kb] (by rfl) (by rfl) NB.out (by simp [Value.oneCell']) (by omega) (by simp [maxLen]; omega) (by omega) Z7.out (w6.heap.size + 1) (by simp) ?_
          intro gg cap2 w8 hown hgrow hgat hglt
          have GR := (Chg.refl (fun x => u.ownBlock = some x) (w6.alloc (.cells #[.string nm, .slice va kk.len vc, .int .i64 kb] 32))).grown hgrow (fun r e => Or.inl e)
          have nO : ¬ u.ownBlock = some O := fun e => by have := (RL.out O e).1; have := HO.out; omega
          have T8 := GR.blk nO HT7.out
          have zO8 := blk_cell T8 1
          have fO8 := blk_free T8 1
          simp only [List.getElem?_toArray, List.getElem?_cons_zero, List.getElem?_cons_succ] at zO8
          have xP8 := GR.cell (fun e => (lO.out.2.2 P e).1 rfl) xP7
          have d08 := GR.cell (fun e => (lO.out.2.2 g e).2 rfl) d07
          have y08 := GR.cell (fun e => by have := (RL.out A e).2; have := SA.out; omega) y07
          have y18 := GR.cell (fun e => by have := (RL.out A e).2; have := SA.out; omega) y17
          have M8 := N7.out.grown hgrow (u' := .slice (some ⟨gg, 0, none⟩) (us.length + 1) cap2) (by rcases hgat with h | h; exact Or.inl (by rw [h]; rfl); exact Or.inr (by rw [h, al_sz]; rfl))
          have G9 := Chg.set w8 O 1 (.slice (some ⟨gg, 0, none⟩) (us.length + 1) cap2)
          have T9 : Hid ((w8.setCell ⟨O, 1, none⟩ (.slice (some ⟨gg, 0, none⟩) (us.length + 1) cap2)).heap[O]? = some (.cells #[.slice ba (min bn 30) bc, .slice (some ⟨gg, 0, none⟩) (us.length + 1) cap2] 26)) := hide (blk_set T8 1 (.slice (some ⟨gg, 0, none⟩) (us.length + 1) cap2))
          have A9 := hide (caccT_snoc (own_chg hown G9 (fun x hx e => by have := HO.out; omega)))
          have M9 := hide (M8.chg G9 (fun x hx _ _ e => by have := HO.out; omega))
          have Z9 := hide (Nat.le_trans Z7.out (Nat.le_trans GR.size G9.size))
          have C9 : Hid (Chg (fun x => x = O) w1 (w8.setCell ⟨O, 1, none⟩ (.slice (some ⟨gg, 0, none⟩) (us.length + 1) cap2))) := hide (by
            have h1 : Chg (fun x => x = O ∨ bo ≤ x) w1 _ := ((C7.out.mono (fun x _ h => Or.inl h)).trans (GR.mono (fun x _ h => Or.inr (RL.out x h).1))).trans (G9.mono (fun x _ h => Or.inl h))
            exact h1.mono (fun x hx h => by have := HS.out; omega))
          have xP9 := G9.cell (lO.out.1) xP8
          have d09 := G9.cell (lO.out.2.1) d08
          have y09 := G9.cell (fun e => by have := Z0.out; have := SA.out; have := HO.out; have := HA.out; omega) y08
          have y19 := G9.cell (fun e => by have := Z0.out; have := SA.out; have := HO.out; have := HA.out; omega) y18
          have HL9 : Hid ((us ++ [(nm, (Value.slice va kk.len vc), kb)]).length = i + 1) := hide (by rw [List.length_append, HUL.out]; rfl)
          have F9 : Hid (VInvT 26 32 w1 (w8.setCell ⟨O, 1, none⟩ (.slice (some ⟨gg, 0, none⟩) (us.length + 1) cap2)) O bo (.slice ba (min bn 30) bc) (toCs cs) (i + 1)) := hide ⟨_, us ++ [(nm, .slice va kk.len vc, kb)], T9, A9, HL9, M9, Z9, C9⟩
          clear GR T8 M8 G9 hown hgrow hgat nO T9 A9 HL9 M9 Z9 C9
          refine hK.out _ _ ⟨xP8, d08, y08, y18⟩ (fun hHeld => ?_)
          clear hK K
          try simp only [Act.put, List.getElem_toArray, List.getElem_cons_zero, List.getElem_cons_succ, List.setIfInBounds_toArray, List.set_cons_zero, List.set_cons_succ]
          first
            | (refine wpAnyH_take (i := 13) (v := undef) rfl (by kernel_rfl) (by kernel_rfl) (by kernel_rfl) (fun _ _ _ h => h) (Or.inr ⟨by rfl, rfl⟩) (by assumption) ?_)
            | (refine wpAnyH_take (i := 13) (v := ?_) rfl (by kernel_rfl) (by kernel_rfl) (by kernel_rfl) (fun _ _ _ h => h) (Or.inl ⟨by rfl, ?_⟩) (by assumption) ?_
               rotate_left
               (intro w hSw
                (try dsimp only at hSw)
                (go_simp <;> with_reducible rfl)))
          try simp only [Act.put, List.getElem_toArray, List.getElem_cons_zero, List.getElem_cons_succ, List.setIfInBounds_toArray, List.set_cons_zero, List.set_cons_succ]
          refine wpAnyH_ready (rs := [14]) (by kernel_rfl) (by simp) ?_
          refine AllReadyH.cons (i := 14) (o := _) rfl (fun K hK => ?_) ?_
          rotate_left
          · exact AllReadyH.nil
          go_simp
          refine hK.out _ _ ⟨xP9, d09, y09, y19⟩ (fun hHeld => ?_)
          clear hK K
          try simp only [Act.put, List.getElem_toArray, List.getElem_cons_zero, List.getElem_cons_succ, List.setIfInBounds_toArray, List.set_cons_zero, List.set_cons_succ]
          refine wpAnyH_done (by kernel_rfl) ?_ _
          go_wp2_with fail
          go_roundw
          case rel => exact ⟨i + 1, by omega, by go_num, F9⟩
          case measure => simp [intOf]; omega
        refine AllReadyH.cons (i := 9) (o := _) rfl (fun K hK => ?_) ?_
        rotate_left
        · exact AllReadyH.nil
        go_simp
        refine ar.out.mono ?_
        rintro e w6 ⟨⟨v', rfl, t6⟩, g6'⟩
        obtain ⟨va, vc, rfl, _⟩ := id t6
        have g6 := (Chg.refl (fun _ => False) w5).drew.trans g6'
        have xP6 := g6.cell (fun h => h) xP
        have d06 := g6.cell (fun h => h) d0
        have y06 := g6.cell (fun h => h) y0
        have y16 := g6.cell (fun h => h) y1
        have zO6 := g6.cell (fun h => h) zO
        have G7 := al w6 (.cells #[.string nm, .slice va kk.len vc, .int .i64 kb] 32)
        have xP7 := G7.cell (fun h => h) xP6
        have d07 := G7.cell (fun h => h) d06
        have y07 := G7.cell (fun h => h) y06
        have y17 := G7.cell (fun h => h) y16
        have zO7 := G7.cell (fun h => h) zO6
        have HT7 := hide (G7.blk (fun h => h) (g6.blk (fun h => h) HT5.out))
        have A7 := hide (own_chg (own_chg A5.out g6 (fun x hx h => h)) G7 (fun x hx h => h))
        have M7 := (M5.out.chg g6 (fun _ _ _ _ h => h)).chg G7 (fun _ _ _ _ h => h)
        have C7 := hide ((C5.out.trans g6.none).trans G7.none)
        have T7 := (t6.chg G7 (fun _ _ h => h)).up (Y := fun x => bo ≤ x ∧ x < (w6.alloc (.cells #[.string nm, .slice va kk.len vc, .int .i64 kb] 32)).heap.size ∧ u.ownBlock ≠ some x) (fun x hx => ⟨Nat.le_trans Z5.out hx.1, Nat.lt_of_lt_of_le hx.2 G7.size, fun e => by have h1 := (RL.out x e).2; have h3 : w5.heap.size ≤ x := hx.1; have := SA.out; have := HA.out; omega⟩)
        have N7 := hide (SN.out _ _ M7 T7)
        have Z7 := hide (Nat.le_trans Z5.out (Nat.le_trans g6.size G7.size))
        have NB := hide (World.news_of_block (cs := #[.string nm, .slice va kk.len vc, .int .i64 kb]) (t := 32) (fr := (0, 0)) (heap_alloc_new w6 _))
        clear t6 g6 g6' G7 M7 T7
        go_simp
        refine hK.out _ _ ⟨xP6, d06, y06, y16⟩ (fun hHeld => ?_)
        clear hK K
        try simp only [Act.put, List.getElem_toArray, List.getElem_cons_zero, List.getElem_cons_succ, List.setIfInBounds_toArray, List.set_cons_zero, List.set_cons_succ]
        first
          | (refine wpAnyH_take (i := 10) (v := undef) rfl (by kernel_rfl) (by kernel_rfl) (by kernel_rfl) (fun _ _ _ h => h) (Or.inr ⟨by rfl, rfl⟩) (by assumption) ?_)
          | (refine wpAnyH_take (i := 10) (v := ?_) rfl (by kernel_rfl) (by kernel_rfl) (by kernel_rfl) (fun _ _ _ h => h) (Or.inl ⟨by rfl, ?_⟩) (by assumption) ?_
             rotate_left
             (intro w hSw
              (try dsimp only at hSw)
              (go_simp <;> with_reducible rfl)))
        try simp only [Act.put, List.getElem_toArray, List.getElem_cons_zero, List.getElem_cons_succ, List.setIfInBounds_toArray, List.set_cons_zero, List.set_cons_succ]
        refine wpAnyH_ready (rs := [1, 11]) (by kernel_rfl) (by simp) ?_
        refine AllReadyH.cons (i := 1) (o := _) rfl (fun K hK => ?_) ?_
        · go_simp
          refine hK.out _ _ ⟨xP6, d06, y06, y16⟩ (fun hHeld => ?_)
          clear hK K
          try simp only [Act.put, List.getElem_toArray, List.getElem_cons_zero, List.getElem_cons_succ, List.setIfInBounds_toArray, List.set_cons_zero, List.set_cons_succ]
          refine wpAnyH_ready (rs := [11]) (by kernel_rfl) (by simp) ?_
          refine AllReadyH.cons (i := 11) (o := _) rfl (fun K hK => ?_) ?_
          rotate_left
          · exact AllReadyH.nil
          go_simp
          refine hK.out _ _ ⟨xP7, d07, y07, y17⟩ (fun hHeld => ?_)
          clear hK K
          try simp only [Act.put, List.getElem_toArray, List.getElem_cons_zero, List.getElem_cons_succ, List.setIfInBounds_toArray, List.set_cons_zero, List.set_cons_succ]
          refine wpAnyH_ready (rs := [12]) (by kernel_rfl) (by simp) ?_
          refine AllReadyH.cons (i := 12) (o := _) rfl (fun K hK => ?_) ?_
          rotate_left
          · exact AllReadyH.nil
          refine step_append_lies _ (by rfl) _ _ _ (by rfl) bo 32 i0 (.agg #[.string ⟨#[]⟩, .slice none 0 0, .int .i64 0]) 3 48 Tryd.underlying24 hi0 hz0 hz1 hz2 rfl (by omega) _ us.length (cellsC us) (by rfl) A7.out ⟨w6.heap.size, 0, none⟩ 1 1 [.string nm, .slice va kk.len vc, .int .i64 kb] (by rfl) (by rfl) NB.out (by simp [Value.oneCell']) (by omega) (by simp [maxLen]; omega) (by omega) Z7.out (w6.heap.size + 1) (by simp) ?_
          intro gg cap2 w8 hown hgrow hgat hglt
          have GR := (Chg.refl (fun x => u.ownBlock = some x) (w6.alloc (.cells #[.string nm, .slice va kk.len vc, .int .i64 kb] 32))).grown hgrow (fun r e => Or.inl e)
          have nO : ¬ u.ownBlock = some O := fun e => by have := (RL.out O e).1; have := HO.out; omega
          have T8 := GR.blk nO HT7.out
          have zO8 := blk_cell T8 1
          have fO8 := blk_free T8 1
          simp only [List.getElem?_toArray, List.getElem?_cons_zero, List.getElem?_cons_succ] at zO8
          have xP8 := GR.cell (fun e => (lO.out.2.2 P e).1 rfl) xP7
          have d08 := GR.cell (fun e => (lO.out.2.2 g e).2 rfl) d07
          have y08 := GR.cell (fun e => by have := (RL.out A e).2; have := SA.out; omega) y07
          have y18 := GR.cell (fun e => by have := (RL.out A e).2; have := SA.out; omega) y17
          have M8 := N7.out.grown hgrow (u' := .slice (some ⟨gg, 0, none⟩) (us.length + 1) cap2) (by rcases hgat with h | h; exact Or.inl (by rw [h]; rfl); exact Or.inr (by rw [h, al_sz]; rfl))
          have G9 := Chg.set w8 O 1 (.slice (some ⟨gg, 0, none⟩) (us.length + 1) cap2)
          have T9 : Hid ((w8.setCell ⟨O, 1, none⟩ (.slice (some ⟨gg, 0, none⟩) (us.length + 1) cap2)).heap[O]? = some (.cells #[.slice ba (min bn 30) bc, .slice (some ⟨gg, 0, none⟩) (us.length + 1) cap2] 26)) := hide (blk_set T8 1 (.slice (some ⟨gg, 0, none⟩) (us.length + 1) cap2))
          have A9 := hide (caccT_snoc (own_chg hown G9 (fun x hx e => by have := HO.out; omega)))
          have M9 := hide (M8.chg G9 (fun x hx _ _ e => by have := HO.out; omega))
          have Z9 := hide (Nat.le_trans Z7.out (Nat.le_trans GR.size G9.size))
          have C9 : Hid (Chg (fun x => x = O) w1 (w8.setCell ⟨O, 1, none⟩ (.slice (some ⟨gg, 0, none⟩) (us.length + 1) cap2))) := hide (by
            have h1 : Chg (fun x => x = O ∨ bo ≤ x) w1 _ := ((C7.out.mono (fun x _ h => Or.inl h)).trans (GR.mono (fun x _ h => Or.inr (RL.out x h).1))).trans (G9.mono (fun x _ h => Or.inl h))
            exact h1.mono (fun x hx h => by have := HS.out; omega))
          have xP9 := G9.cell (lO.out.1) xP8
          have d09 := G9.cell (lO.out.2.1) d08
          have y09 := G9.cell (fun e => by have := Z0.out; have := SA.out; have := HO.out; have := HA.out; omega) y08
          have y19 := G9.cell (fun e => by have := Z0.out; have := SA.out; have := HO.out; have := HA.out; omega) y18
          have HL9 : Hid ((us ++ [(nm, (Value.slice va kk.len vc), kb)]).length = i + 1) := hide (by rw [List.length_append, HUL.out]; rfl)
          have F9 : Hid (VInvT 26 32 w1 (w8.setCell ⟨O, 1, none⟩ (.slice (some ⟨gg, 0, none⟩) (us.length + 1) cap2)) O bo (.slice ba (min bn 30) bc) (toCs cs) (i + 1)) := hide ⟨_, us ++ [(nm, .slice va kk.len vc, kb)], T9, A9, HL9, M9, Z9, C9⟩
          clear GR T8 M8 G9 hown hgrow hgat nO T9 A9 HL9 M9 Z9 C9
          refine hK.out _ _ ⟨xP8, d08, y08, y18⟩ (fun hHeld => ?_)
          clear hK K
          try simp only [Act.put, List.getElem_toArray, List.getElem_cons_zero, List.getElem_cons_succ, List.setIfInBounds_toArray, List.set_cons_zero, List.set_cons_succ]
          first
            | (refine wpAnyH_take (i := 13) (v := undef) rfl (by kernel_rfl) (by kernel_rfl) (by kernel_rfl) (fun _ _ _ h => h) (Or.inr ⟨by rfl, rfl⟩) (by assumption) ?_)
            | (refine wpAnyH_take (i := 13) (v := ?_) rfl (by kernel_rfl) (by kernel_rfl) (by kernel_rfl) (fun _ _ _ h => h) (Or.inl ⟨by rfl, ?_⟩) (by assumption) ?_
               rotate_left
               (intro w hSw
                (try dsimp only at hSw)
                (go_simp <;> with_reducible rfl)))
          try simp only [Act.put, List.getElem_toArray, List.getElem_cons_zero, List.getElem_cons_succ, List.setIfInBounds_toArray, List.set_cons_zero, List.set_cons_succ]
          refine wpAnyH_ready (rs := [14]) (by kernel_rfl) (by simp) ?_
          refine AllReadyH.cons (i := 14) (o := _) rfl (fun K hK => ?_) ?_
          rotate_left
          · exact AllReadyH.nil
          go_simp
          refine hK.out _ _ ⟨xP9, d09, y09, y19⟩ (fun hHeld => ?_)
          clear hK K
          try simp only [Act.put, List.getElem_toArray, List.getElem_cons_zero, List.getElem_cons_succ, List.setIfInBounds_toArray, List.set_cons_zero, List.set_cons_succ]
          refine wpAnyH_done (by kernel_rfl) ?_ _
          go_wp2_with fail
          go_roundw
          case rel => exact ⟨i + 1, by omega, by go_num, F9⟩
          case measure => simp [intOf]; omega
        refine AllReadyH.cons (i := 11) (o := _) rfl (fun K hK => ?_) ?_
        rotate_left
        · exact AllReadyH.nil
        go_simp
        refine hK.out _ _ ⟨xP7, d07, y07, y17⟩ (fun hHeld => ?_)
        clear hK K
        try simp only [Act.put, List.getElem_toArray, List.getElem_cons_zero, List.getElem_cons_succ, List.setIfInBounds_toArray, List.set_cons_zero, List.set_cons_succ]
        refine wpAnyH_ready (rs := [1]) (by kernel_rfl) (by simp) ?_
        refine AllReadyH.cons (i := 1) (o := _) rfl (fun K hK => ?_) ?_
        rotate_left
        · exact AllReadyH.nil
        go_simp
        refine hK.out _ _ ⟨xP7, d07, y07, y17⟩ (fun hHeld => ?_)
        clear hK K
        try simp only [Act.put, List.getElem_toArray, List.getElem_cons_zero, List.getElem_cons_succ, List.setIfInBounds_toArray, List.set_cons_zero, List.set_cons_succ]
        refine wpAnyH_ready (rs := [12]) (by kernel_rfl) (by simp) ?_
        refine AllReadyH.cons (i := 12) (o := _) rfl (fun K hK => ?_) ?_
        rotate_left
        · exact AllReadyH.nil
        refine step_append_lies _ (by rfl) _ _ _ (by rfl) bo 32 i0 (.agg #[.string ⟨#[]⟩, .slice none 0 0, .int .i64 0]) 3 48 Tryd.underlying24 hi0 hz0 hz1 hz2 rfl (by omega) _ us.length (cellsC us) (by rfl) A7.out ⟨w6.heap.size, 0, none⟩ 1 1 [.string nm, .slice va kk.len vc, .int .i64 kb] (by rfl) (by rfl) NB.out (by simp [Value.oneCell']) (by omega) (by simp [maxLen]; omega) (by omega) Z7.out (w6.heap.size + 1) (by simp) ?_
        intro gg cap2 w8 hown hgrow hgat hglt
        have GR := (Chg.refl (fun x => u.ownBlock = some x) (w6.alloc (.cells #[.string nm, .slice va kk.len vc, .int .i64 kb] 32))).grown hgrow (fun r e => Or.inl e)
        have nO : ¬ u.ownBlock = some O := fun e => by have := (RL.out O e).1; have := HO.out; omega
        have T8 := GR.blk nO HT7.out
        have zO8 := blk_cell T8 1
        have fO8 := blk_free T8 1
        simp only [List.getElem?_toArray, List.getElem?_cons_zero, List.getElem?_cons_succ] at zO8
        have xP8 := GR.cell (fun e => (lO.out.2.2 P e).1 rfl) xP7
        have d08 := GR.cell (fun e => (lO.out.2.2 g e).2 rfl) d07
        have y08 := GR.cell (fun e => by have := (RL.out A e).2; have := SA.out; omega) y07
        have y18 := GR.cell (fun e => by have := (RL.out A e).2; have := SA.out; omega) y17
        have M8 := N7.out.grown hgrow (u' := .slice (some ⟨gg, 0, none⟩) (us.length + 1) cap2) (by rcases hgat with h | h; exact Or.inl (by rw [h]; rfl); exact Or.inr (by rw [h, al_sz]; rfl))
        have G9 := Chg.set w8 O 1 (.slice (some ⟨gg, 0, none⟩) (us.length + 1) cap2)
        have T9 : Hid ((w8.setCell ⟨O, 1, none⟩ (.slice (some ⟨gg, 0, none⟩) (us.length + 1) cap2)).heap[O]? = some (.cells #[.slice ba (min bn 30) bc, .slice (some ⟨gg, 0, none⟩) (us.length + 1) cap2] 26)) := hide (blk_set T8 1 (.slice (some ⟨gg, 0, none⟩) (us.length + 1) cap2))
        have A9 := hide (caccT_snoc (own_chg hown G9 (fun x hx e => by have := HO.out; omega)))
        have M9 := hide (M8.chg G9 (fun x hx _ _ e => by have := HO.out; omega))
        have Z9 := hide (Nat.le_trans Z7.out (Nat.le_trans GR.size G9.size))
        have C9 : Hid (Chg (fun x => x = O) w1 (w8.setCell ⟨O, 1, none⟩ (.slice (some ⟨gg, 0, none⟩) (us.length + 1) cap2))) := hide (by
          have h1 : Chg (fun x => x = O ∨ bo ≤ x) w1 _ := ((C7.out.mono (fun x _ h => Or.inl h)).trans (GR.mono (fun x _ h => Or.inr (RL.out x h).1))).trans (G9.mono (fun x _ h => Or.inl h))
          exact h1.mono (fun x hx h => by have := HS.out; omega))
        have xP9 := G9.cell (lO.out.1) xP8
        have d09 := G9.cell (lO.out.2.1) d08
        have y09 := G9.cell (fun e => by have := Z0.out; have := SA.out; have := HO.out; have := HA.out; omega) y08
        have y19 := G9.cell (fun e => by have := Z0.out; have := SA.out; have := HO.out; have := HA.out; omega) y18
        have HL9 : Hid ((us ++ [(nm, (Value.slice va kk.len vc), kb)]).length = i + 1) := hide (by rw [List.length_append, HUL.out]; rfl)
        have F9 : Hid (VInvT 26 32 w1 (w8.setCell ⟨O, 1, none⟩ (.slice (some ⟨gg, 0, none⟩) (us.length + 1) cap2)) O bo (.slice ba (min bn 30) bc) (toCs cs) (i + 1)) := hide ⟨_, us ++ [(nm, .slice va kk.len vc, kb)], T9, A9, HL9, M9, Z9, C9⟩
        clear GR T8 M8 G9 hown hgrow hgat nO T9 A9 HL9 M9 Z9 C9
        refine hK.out _ _ ⟨xP8, d08, y08, y18⟩ (fun hHeld => ?_)
        clear hK K
        try simp only [Act.put, List.getElem_toArray, List.getElem_cons_zero, List.getElem_cons_succ, List.setIfInBounds_toArray, List.set_cons_zero, List.set_cons_succ]
        first
          | (refine wpAnyH_take (i := 13) (v := undef) rfl (by kernel_rfl) (by kernel_rfl) (by kernel_rfl) (fun _ _ _ h => h) (Or.inr ⟨by rfl, rfl⟩) (by assumption) ?_)
          | (refine wpAnyH_take (i := 13) (v := ?_) rfl (by kernel_rfl) (by kernel_rfl) (by kernel_rfl) (fun _ _ _ h => h) (Or.inl ⟨by rfl, ?_⟩) (by assumption) ?_
             rotate_left
             (intro w hSw
              (try dsimp only at hSw)
              (go_simp <;> with_reducible rfl)))
        try simp only [Act.put, List.getElem_toArray, List.getElem_cons_zero, List.getElem_cons_succ, List.setIfInBounds_toArray, List.set_cons_zero, List.set_cons_succ]
        refine wpAnyH_ready (rs := [14]) (by kernel_rfl) (by simp) ?_
        refine AllReadyH.cons (i := 14) (o := _) rfl (fun K hK => ?_) ?_
        rotate_left
        · exact AllReadyH.nil
        go_simp
        refine hK.out _ _ ⟨xP9, d09, y09, y19⟩ (fun hHeld => ?_)
        clear hK K
        try simp only [Act.put, List.getElem_toArray, List.getElem_cons_zero, List.getElem_cons_succ, List.setIfInBounds_toArray, List.set_cons_zero, List.set_cons_succ]
        refine wpAnyH_done (by kernel_rfl) ?_ _
        go_wp2_with fail
        go_roundw
        case rel => exact ⟨i + 1, by omega, by go_num, F9⟩
        case measure => simp [intOf]; omega
      | false =>
        have cA0 := blk_cell hb6.out 0
        have cA1 := blk_cell hb6.out 1
        have fA0 := blk_free hb6.out 0
        have fA1 := blk_free hb6.out 1
        simp only [List.getElem?_toArray, List.getElem?_cons_zero, List.getElem?_cons_succ] at cA0 cA1
        have t1 := blk_set hb6.out 0 (.slice none 0 0)
        have t2 := hide (blk_set t1 1 (.int .i64 0))
        have gs1 := Chg.set w6 A 0 (.slice none 0 0)
        have gs2 := Chg.set (w6.setCell ⟨A, 0, none⟩ (.slice none 0 0)) A 1 (.int .i64 0)
        have gs := hide (gs1.trans gs2)
        clear t1 gs1 gs2
        go_wp2_with fail
        have KEY : ∃ (ka : Option Addr) (kc : Nat) (kk : Fs) (kb : Int), Hid (((w6.setCell ⟨A, 0, none⟩ (.slice none 0 0)).setCell ⟨A, 1, none⟩ (.int .i64 0)).heap[A]? = some (.cells #[.slice ka kk.len kc, .int .i64 kb] 63)) ∧ Hid (Ts ((w6.setCell ⟨A, 0, none⟩ (.slice none 0 0)).setCell ⟨A, 1, none⟩ (.int .i64 0)) X (.slice ka kk.len kc) kk) ∧ Hid (kk.size ≤ 99) ∧ Hid (toC (nm, k0, b0) = (nm, kk, kb)) ∧ Hid (Chg (fun x => x = A) wr ((w6.setCell ⟨A, 0, none⟩ (.slice none 0 0)).setCell ⟨A, 1, none⟩ (.int .i64 0))) := ⟨none, 0, .nil, 0, t2, hide (Ts.nil _ _), hide (Nat.zero_le _), hide (by
          rw [HTO.out, if_neg (of_decide_eq_false HQ.out)]), hide (GX.out.none.trans gs.out)⟩
        obtain ⟨ka, kc, kk, kb, hA5, ti5, KS, KT, GX5⟩ := KEY
        have SA := hide (Nat.lt_of_lt_of_le SA6.out gs.out.size)
        have xP' := GX5.out.cell gA.out.2.1 xP
        have d0' := GX5.out.cell gA.out.1 d0
        have HT5 := hide (GX5.out.blk gA.out.2.2 hT.out)
        have A5 := hide (own_chg2 (show wr.ownsRow bo 32 3 u us.length (cellsC us) from hA.out) GX5.out (fun x hx e => by have := (RL.out x hx).2; omega))
        have M5 := hide (hM.out.chg GX5.out (fun x _ hx _ e => by have := HA.out; omega))
        have Z5 : Hid (bo ≤ ((w6.setCell ⟨A, 0, none⟩ (.slice none 0 0)).setCell ⟨A, 1, none⟩ (.int .i64 0)).heap.size) := hide (Nat.le_trans Z0.out GX5.out.size)
        have C5 : Hid (Chg (fun x => x = O) w1 ((w6.setCell ⟨A, 0, none⟩ (.slice none 0 0)).setCell ⟨A, 1, none⟩ (.int .i64 0))) := hide (by
          have h1 : Chg (fun x => x = O ∨ x = A) w1 _ := (hC.out.mono (fun x _ h => Or.inl h)).trans (GX5.out.mono (fun x _ h => Or.inr h))
          exact h1.mono (fun x hx h => by have := HS.out; have := HA.out; have := Z0.out; omega))
        have BW : Hid (∀ x, X x → x < ((w6.setCell ⟨A, 0, none⟩ (.slice none 0 0)).setCell ⟨A, 1, none⟩ (.int .i64 0)).heap.size) := hide (fun x hx => by have h1 := XA.out x hx; have h2 := GX5.out.size; have h3 := HA.out; omega)
        have ar := hide (to04_any kk (by have := KS.out; omega) (.slice ka kk.len kc) kb X ((w6.setCell ⟨A, 0, none⟩ (.slice none 0 0)).setCell ⟨A, 1, none⟩ (.int .i64 0)).drew (fun x hx => Nat.lt_of_lt_of_le (BW.out x hx) (Chg.refl (fun _ => False) ((w6.setCell ⟨A, 0, none⟩ (.slice none 0 0)).setCell ⟨A, 1, none⟩ (.int .i64 0))).drew.size) (ti5.out.chg ((Chg.refl (fun _ => False) ((w6.setCell ⟨A, 0, none⟩ (.slice none 0 0)).setCell ⟨A, 1, none⟩ (.int .i64 0))).drew) (fun _ _ h => h)))
        have y0 := blk_cell hA5.out 0
        have y1 := blk_cell hA5.out 1
        have zO := blk_cell HT5.out 1
        simp only [List.getElem?_toArray, List.getElem?_cons_zero, List.getElem?_cons_succ] at y0 y1 zO
        have SN := hide (fun (w' : World) (v' : Value) (h : Same2 w' bo u (toCs cs) us) (hv' : Ts w' (fun x => bo ≤ x ∧ x < w'.heap.size ∧ u.ownBlock ≠ some x) v' kk) => SN.out w' v' kk kb KT.out h hv')
        clear cA0 cA1 fA0 fA1 t2 gs hT hA hM hC xP d0 fc G5 GX5 hA5 hb6 hb5 GX
        generalize ((w6.setCell ⟨A, 0, none⟩ (.slice none 0 0)).setCell ⟨A, 1, none⟩ (.int .i64 0)) = w5 at *
        have xP := xP'
        have d0 := d0'
        clear xP' d0'
        refine wp_region_held_drew (S := (fun w' => w'.cell? ⟨P, 1, none⟩ = some (.slice (some ⟨g, off, none⟩) cs.length cc) ∧ w'.cell? ⟨g, off + i * 3, none⟩ = some (.string nm) ∧ w'.cell? ⟨A, 0, none⟩ = some (.slice ka kk.len kc) ∧ w'.cell? ⟨A, 1, none⟩ = some (.int .i64 kb))) (by kernel_rfl) (by go_keep) (fun hHeld => ?_)
        first
          | (refine wpAnyH_take (i := 0) (v := undef) rfl (by kernel_rfl) (by kernel_rfl) (by kernel_rfl) (fun _ _ _ h => h) (Or.inr ⟨by rfl, rfl⟩) (by assumption) ?_)
          | (refine wpAnyH_take (i := 0) (v := ?_) rfl (by kernel_rfl) (by kernel_rfl) (by kernel_rfl) (fun _ _ _ h => h) (Or.inl ⟨by rfl, ?_⟩) (by assumption) ?_
             rotate_left
             (intro w hSw
              (try dsimp only at hSw)
              (go_simp <;> with_reducible rfl)))
        try simp only [Act.put, List.getElem_toArray, List.getElem_cons_zero, List.getElem_cons_succ, List.setIfInBounds_toArray, List.set_cons_zero, List.set_cons_succ]
        first
          | (refine wpAnyH_take (i := 2) (v := undef) rfl (by kernel_rfl) (by kernel_rfl) (by kernel_rfl) (fun _ _ _ h => h) (Or.inr ⟨by rfl, rfl⟩) (by assumption) ?_)
          | (refine wpAnyH_take (i := 2) (v := ?_) rfl (by kernel_rfl) (by kernel_rfl) (by kernel_rfl) (fun _ _ _ h => h) (Or.inl ⟨by rfl, ?_⟩) (by assumption) ?_
             rotate_left
             (intro w hSw
              (try dsimp only at hSw)
              (go_simp <;> with_reducible rfl)))
        try simp only [Act.put, List.getElem_toArray, List.getElem_cons_zero, List.getElem_cons_succ, List.setIfInBounds_toArray, List.set_cons_zero, List.set_cons_succ]
        first
          | (refine wpAnyH_take (i := 3) (v := undef) rfl (by kernel_rfl) (by kernel_rfl) (by kernel_rfl) (fun _ _ _ h => h) (Or.inr ⟨by rfl, rfl⟩) (by assumption) ?_)
          | (refine wpAnyH_take (i := 3) (v := ?_) rfl (by kernel_rfl) (by kernel_rfl) (by kernel_rfl) (fun _ _ _ h => h) (Or.inl ⟨by rfl, ?_⟩) (by assumption) ?_
             rotate_left
             (intro w hSw
              (try dsimp only at hSw)
              (go_simp <;> with_reducible rfl)))
        try simp only [Act.put, List.getElem_toArray, List.getElem_cons_zero, List.getElem_cons_succ, List.setIfInBounds_toArray, List.set_cons_zero, List.set_cons_succ]
        first
          | (refine wpAnyH_take (i := 4) (v := undef) rfl (by kernel_rfl) (by kernel_rfl) (by kernel_rfl) (fun _ _ _ h => h) (Or.inr ⟨by rfl, rfl⟩) (by assumption) ?_)
          | (refine wpAnyH_take (i := 4) (v := ?_) rfl (by kernel_rfl) (by kernel_rfl) (by kernel_rfl) (fun _ _ _ h => h) (Or.inl ⟨by rfl, ?_⟩) (by assumption) ?_
             rotate_left
             (intro w hSw
              (try dsimp only at hSw)
              (go_simp <;> with_reducible rfl)))
        try simp only [Act.put, List.getElem_toArray, List.getElem_cons_zero, List.getElem_cons_succ, List.setIfInBounds_toArray, List.set_cons_zero, List.set_cons_succ]
        first
          | (refine wpAnyH_take (i := 5) (v := undef) rfl (by kernel_rfl) (by kernel_rfl) (by kernel_rfl) (fun _ _ _ h => h) (Or.inr ⟨by rfl, rfl⟩) (by assumption) ?_)
          | (refine wpAnyH_take (i := 5) (v := ?_) rfl (by kernel_rfl) (by kernel_rfl) (by kernel_rfl) (fun _ _ _ h => h) (Or.inl ⟨by rfl, ?_⟩) (by assumption) ?_
             rotate_left
             (intro w hSw
              (try dsimp only at hSw)
              (go_simp <;> with_reducible rfl)))
        try simp only [Act.put, List.getElem_toArray, List.getElem_cons_zero, List.getElem_cons_succ, List.setIfInBounds_toArray, List.set_cons_zero, List.set_cons_succ]
        first
          | (refine wpAnyH_take (i := 6) (v := undef) rfl (by kernel_rfl) (by kernel_rfl) (by kernel_rfl) (fun _ _ _ h => h) (Or.inr ⟨by rfl, rfl⟩) (by assumption) ?_)
          | (refine wpAnyH_take (i := 6) (v := ?_) rfl (by kernel_rfl) (by kernel_rfl) (by kernel_rfl) (fun _ _ _ h => h) (Or.inl ⟨by rfl, ?_⟩) (by assumption) ?_
             rotate_left
             (intro w hSw
              (try dsimp only at hSw)
              (go_simp <;> with_reducible rfl)))
        try simp only [Act.put, List.getElem_toArray, List.getElem_cons_zero, List.getElem_cons_succ, List.setIfInBounds_toArray, List.set_cons_zero, List.set_cons_succ]
        first
          | (refine wpAnyH_take (i := 7) (v := undef) rfl (by kernel_rfl) (by kernel_rfl) (by kernel_rfl) (fun _ _ _ h => h) (Or.inr ⟨by rfl, rfl⟩) (by assumption) ?_)
          | (refine wpAnyH_take (i := 7) (v := ?_) rfl (by kernel_rfl) (by kernel_rfl) (by kernel_rfl) (fun _ _ _ h => h) (Or.inl ⟨by rfl, ?_⟩) (by assumption) ?_
             rotate_left
             (intro w hSw
              (try dsimp only at hSw)
              (go_simp <;> with_reducible rfl)))
        try simp only [Act.put, List.getElem_toArray, List.getElem_cons_zero, List.getElem_cons_succ, List.setIfInBounds_toArray, List.set_cons_zero, List.set_cons_succ]
        first
          | (refine wpAnyH_take (i := 8) (v := undef) rfl (by kernel_rfl) (by kernel_rfl) (by kernel_rfl) (fun _ _ _ h => h) (Or.inr ⟨by rfl, rfl⟩) (by assumption) ?_)
          | (refine wpAnyH_take (i := 8) (v := ?_) rfl (by kernel_rfl) (by kernel_rfl) (by kernel_rfl) (fun _ _ _ h => h) (Or.inl ⟨by rfl, ?_⟩) (by assumption) ?_
             rotate_left
             (intro w hSw
              (try dsimp only at hSw)
              (go_simp <;> with_reducible rfl)))
        try simp only [Act.put, List.getElem_toArray, List.getElem_cons_zero, List.getElem_cons_succ, List.setIfInBounds_toArray, List.set_cons_zero, List.set_cons_succ]
        refine wpAnyH_ready (rs := [1, 9]) (by kernel_rfl) (by simp) ?_
        refine AllReadyH.cons (i := 1) (o := _) rfl (fun K hK => ?_) ?_
        · go_simp
          refine hK.out _ _ ⟨xP, d0, y0, y1⟩ (fun hHeld => ?_)
          clear hK K
          try simp only [Act.put, List.getElem_toArray, List.getElem_cons_zero, List.getElem_cons_succ, List.setIfInBounds_toArray, List.set_cons_zero, List.set_cons_succ]
          refine wpAnyH_ready (rs := [9]) (by kernel_rfl) (by simp) ?_
          refine AllReadyH.cons (i := 9) (o := _) rfl (fun K hK => ?_) ?_
          rotate_left
          · exact AllReadyH.nil
          go_simp
          refine ar.out.mono ?_
          rintro e w6 ⟨⟨v', rfl, t6⟩, g6'⟩
          obtain ⟨va, vc, rfl, _⟩ := id t6
          have g6 := (Chg.refl (fun _ => False) w5).drew.trans g6'
          have xP6 := g6.cell (fun h => h) xP
          have d06 := g6.cell (fun h => h) d0
          have y06 := g6.cell (fun h => h) y0
          have y16 := g6.cell (fun h => h) y1
          have zO6 := g6.cell (fun h => h) zO
          have G7 := al w6 (.cells #[.string nm, .slice va kk.len vc, .int .i64 kb] 32)
          have xP7 := G7.cell (fun h => h) xP6
          have d07 := G7.cell (fun h => h) d06
          have y07 := G7.cell (fun h => h) y06
          have y17 := G7.cell (fun h => h) y16
          have zO7 := G7.cell (fun h => h) zO6
          have HT7 := hide (G7.blk (fun h => h) (g6.blk (fun h => h) HT5.out))
          have A7 := hide (own_chg (own_chg A5.out g6 (fun x hx h => h)) G7 (fun x hx h => h))
          have M7 := (M5.out.chg g6 (fun _ _ _ _ h => h)).chg G7 (fun _ _ _ _ h => h)
          have C7 := hide ((C5.out.trans g6.none).trans G7.none)
          have T7 := (t6.chg G7 (fun _ _ h => h)).up (Y := fun x => bo ≤ x ∧ x < (w6.alloc (.cells #[.string nm, .slice va kk.len vc, .int .i64 kb] 32)).heap.size ∧ u.ownBlock ≠ some x) (fun x hx => ⟨Nat.le_trans Z5.out hx.1, Nat.lt_of_lt_of_le hx.2 G7.size, fun e => by have h1 := (RL.out x e).2; have h3 : w5.heap.size ≤ x := hx.1; have := SA.out; have := HA.out; omega⟩)
          have N7 := hide (SN.out _ _ M7 T7)
          have Z7 := hide (Nat.le_trans Z5.out (Nat.le_trans g6.size G7.size))
          have NB := hide (World.news_of_block (cs := #[.string nm, .slice va kk.len vc, .int .i64 kb]) (t := 32) (fr := (0, 0)) (heap_alloc_new w6 _))
          clear t6 g6 g6' G7 M7 T7
          go_simp
          refine hK.out _ _ ⟨xP6, d06, y06, y16⟩ (fun hHeld => ?_)
          clear hK K
          try simp only [Act.put, List.getElem_toArray, List.getElem_cons_zero, List.getElem_cons_succ, List.setIfInBounds_toArray, List.set_cons_zero, List.set_cons_succ]
          first
            | (refine wpAnyH_take (i := 10) (v := undef) rfl (by kernel_rfl) (by kernel_rfl) (by kernel_rfl) (fun _ _ _ h => h) (Or.inr ⟨by rfl, rfl⟩) (by assumption) ?_)
            | (refine wpAnyH_take (i := 10) (v := ?_) rfl (by kernel_rfl) (by kernel_rfl) (by kernel_rfl) (fun _ _ _ h => h) (Or.inl ⟨by rfl, ?_⟩) (by assumption) ?_
               rotate_left
               (intro w hSw
                (try dsimp only at hSw)
                (go_simp <;> with_reducible rfl)))
          try simp only [Act.put, List.getElem_toArray, List.getElem_cons_zero, List.getElem_cons_succ, List.setIfInBounds_toArray, List.set_cons_zero, List.set_cons_succ]
          refine wpAnyH_ready (rs := [11]) (by kernel_rfl) (by simp) ?_
          refine AllReadyH.cons (i := 11) (o := _) rfl (fun K hK => ?_) ?_
          rotate_left
          · exact AllReadyH.nil
          go_simp
          refine hK.out _ _ ⟨xP7, d07, y07, y17⟩ (fun hHeld => ?_)
          clear hK K
          try simp only [Act.put, List.getElem_toArray, List.getElem_cons_zero, List.getElem_cons_succ, List.setIfInBounds_toArray, List.set_cons_zero, List.set_cons_succ]
          refine wpAnyH_ready (rs := [12]) (by kernel_rfl) (by simp) ?_
          refine AllReadyH.cons (i := 12) (o := _) rfl (fun K hK => ?_) ?_
          rotate_left
          · exact AllReadyH.nil
          refine step_append_lies _ (by rfl) _ _ _ (by rfl) bo 32 i0 (.agg #[.string ⟨#[]⟩, .slice none 0 0, .int .i64 0]) 3 48 Tryd.underlying24 hi0 hz0 hz1 hz2 rfl (by omega) _ us.length (cellsC us) (by rfl) A7.out ⟨w6.heap.size, 0, none⟩ 1 1 [.string nm, .slice va kk.len vc, .int .i64 kb] (by rfl) (by rfl) NB.out (by simp [Value.oneCell']) (by omega) (by simp [maxLen]; omega) (by omega) Z7.out (w6.heap.size + 1) (by simp) ?_
          intro gg cap2 w8 hown hgrow hgat hglt
          have GR := (Chg.refl (fun x => u.ownBlock = some x) (w6.alloc (.cells #[.string nm, .slice va kk.len vc, .int .i64 kb] 32))).grown hgrow (fun r e => Or.inl e)
          have nO : ¬ u.ownBlock = some O := fun e => by have := (RL.out O e).1; have := HO.out; omega
          have T8 := GR.blk nO HT7.out
          have zO8 := blk_cell T8 1
          have fO8 := blk_free T8 1
          simp only [List.getElem?_toArray, List.getElem?_cons_zero, List.getElem?_cons_succ] at zO8
          have xP8 := GR.cell (fun e => (lO.out.2.2 P e).1 rfl) xP7
          have d08 := GR.cell (fun e => (lO.out.2.2 g e).2 rfl) d07
          have y08 := GR.cell (fun e => by have := (RL.out A e).2; have := SA.out; omega) y07
          have y18 := GR.cell (fun e => by have := (RL.out A e).2; have := SA.out; omega) y17
          have M8 := N7.out.grown hgrow (u' := .slice (some ⟨gg, 0, none⟩) (us.length + 1) cap2) (by rcases hgat with h | h; exact Or.inl (by rw [h]; rfl); exact Or.inr (by rw [h, al_sz]; rfl))
          have G9 := Chg.set w8 O 1 (.slice (some ⟨gg, 0, none⟩) (us.length + 1) cap2)
          have T9 : Hid ((w8.setCell ⟨O, 1, none⟩ (.slice (some ⟨gg, 0, none⟩) (us.length + 1) cap2)).heap[O]? = some (.cells #[.slice ba (min bn 30) bc, .slice (some ⟨gg, 0, none⟩) (us.length + 1) cap2] 26)) := hide (blk_set T8 1 (.slice (some ⟨gg, 0, none⟩) (us.length + 1) cap2))
          have A9 := hide (caccT_snoc (own_chg hown G9 (fun x hx e => by have := HO.out; omega)))
          have M9 := hide (M8.chg G9 (fun x hx _ _ e => by have := HO.out; omega))
          have Z9 := hide (Nat.le_trans Z7.out (Nat.le_trans GR.size G9.size))
          have C9 : Hid (Chg (fun x => x = O) w1 (w8.setCell ⟨O, 1, none⟩ (.slice (some ⟨gg, 0, none⟩) (us.length + 1) cap2))) := hide (by
            have h1 : Chg (fun x => x = O ∨ bo ≤ x) w1 _ := ((C7.out.mono (fun x _ h => Or.inl h)).trans (GR.mono (fun x _ h => Or.inr (RL.out x h).1))).trans (G9.mono (fun x _ h => Or.inl h))
            exact h1.mono (fun x hx h => by have := HS.out; omega))
          have xP9 := G9.cell (lO.out.1) xP8
          have d09 := G9.cell (lO.out.2.1) d08
          have y09 := G9.cell (fun e => by have := Z0.out; have := SA.out; have := HO.out; have := HA.out; omega) y08
          have y19 := G9.cell (fun e => by have := Z0.out; have := SA.out; have := HO.out; have := HA.out; omega) y18
          have HL9 : Hid ((us ++ [(nm, (Value.slice va kk.len vc), kb)]).length = i + 1) := hide (by rw [List.length_append, HUL.out]; rfl)
          have F9 : Hid (VInvT 26 32 w1 (w8.setCell ⟨O, 1, none⟩ (.slice (some ⟨gg, 0, none⟩) (us.length + 1) cap2)) O bo (.slice ba (min bn 30) bc) (toCs cs) (i + 1)) := hide ⟨_, us ++ [(nm, .slice va kk.len vc, kb)], T9, A9, HL9, M9, Z9, C9⟩
          clear GR T8 M8 G9 hown hgrow hgat nO T9 A9 HL9 M9 Z9 C9
          refine hK.out _ _ ⟨xP8, d08, y08, y18⟩ (fun hHeld => ?_)
          clear hK K
          try simp only [Act.put, List.getElem_toArray, List.getElem_cons_zero, List.getElem_cons_succ, List.setIfInBounds_toArray, List.set_cons_zero, List.set_cons_succ]
          first
            | (refine wpAnyH_take (i := 13) (v := undef) rfl (by kernel_rfl) (by kernel_rfl) (by kernel_rfl) (fun _ _ _ h => h) (Or.inr ⟨by rfl, rfl⟩) (by assumption) ?_)
            | (refine wpAnyH_take (i := 13) (v := ?_) rfl (by kernel_rfl) (by kernel_rfl) (by kernel_rfl) (fun _ _ _ h => h) (Or.inl ⟨by rfl, ?_⟩) (by assumption) ?_
               rotate_left
               (intro w hSw
                (try dsimp only at hSw)
                (go_simp <;> with_reducible rfl)))
          try simp only [Act.put, List.getElem_toArray, List.getElem_cons_zero, List.getElem_cons_succ, List.setIfInBounds_toArray, List.set_cons_zero, List.set_cons_succ]
          refine wpAnyH_ready (rs := [14]) (by kernel_rfl) (by simp) ?_
          refine AllReadyH.cons (i := 14) (o := _) rfl (fun K hK => ?_) ?_
          rotate_left
          · exact AllReadyH.nil
          go_simp
          refine hK.out _ _ ⟨xP9, d09, y09, y19⟩ (fun hHeld => ?_)
          clear hK K
          try simp only [Act.put, List.getElem_toArray, List.getElem_cons_zero, List.getElem_cons_succ, List.setIfInBounds_toArray, List.set_cons_zero, List.set_cons_succ]
          refine wpAnyH_done (by kernel_rfl) ?_ _
          go_wp2_with fail
          go_roundw
          case rel => exact ⟨i + 1, by omega, by go_num, F9⟩
          case measure => simp [intOf]; omega
        refine AllReadyH.cons (i := 9) (o := _) rfl (fun K hK => ?_) ?_
        rotate_left
        · exact AllReadyH.nil
        go_simp
        refine ar.out.mono ?_
        rintro e w6 ⟨⟨v', rfl, t6⟩, g6'⟩
        obtain ⟨va, vc, rfl, _⟩ := id t6
        have g6 := (Chg.refl (fun _ => False) w5).drew.trans g6'
        have xP6 := g6.cell (fun h => h) xP
        have d06 := g6.cell (fun h => h) d0
        have y06 := g6.cell (fun h => h) y0
        have y16 := g6.cell (fun h => h) y1
        have zO6 := g6.cell (fun h => h) zO
        have G7 := al w6 (.cells #[.string nm, .slice va kk.len vc, .int .i64 kb] 32)
        have xP7 := G7.cell (fun h => h) xP6
        have d07 := G7.cell (fun h => h) d06
        have y07 := G7.cell (fun h => h) y06
        have y17 := G7.cell (fun h => h) y16
        have zO7 := G7.cell (fun h => h) zO6
        have HT7 := hide (G7.blk (fun h => h) (g6.blk (fun h => h) HT5.out))
        have A7 := hide (own_chg (own_chg A5.out g6 (fun x hx h => h)) G7 (fun x hx h => h))
        have M7 := (M5.out.chg g6 (fun _ _ _ _ h => h)).chg G7 (fun _ _ _ _ h => h)
        have C7 := hide ((C5.out.trans g6.none).trans G7.none)
        have T7 := (t6.chg G7 (fun _ _ h => h)).up (Y := fun x => bo ≤ x ∧ x < (w6.alloc (.cells #[.string nm, .slice va kk.len vc, .int .i64 kb] 32)).heap.size ∧ u.ownBlock ≠ some x) (fun x hx => ⟨Nat.le_trans Z5.out hx.1, Nat.lt_of_lt_of_le hx.2 G7.size, fun e => by have h1 := (RL.out x e).2; have h3 : w5.heap.size ≤ x := hx.1; have := SA.out; have := HA.out; omega⟩)
        have N7 := hide (SN.out _ _ M7 T7)
        have Z7 := hide (Nat.le_trans Z5.out (Nat.le_trans g6.size G7.size))
        have NB := hide (World.news_of_block (cs := #[.string nm, .slice va kk.len vc, .int .i64 kb]) (t := 32) (fr := (0, 0)) (heap_alloc_new w6 _))
        clear t6 g6 g6' G7 M7 T7
        go_simp
        refine hK.out _ _ ⟨xP6, d06, y06, y16⟩ (fun hHeld => ?_)
        clear hK K
        try simp only [Act.put, List.getElem_toArray, List.getElem_cons_zero, List.getElem_cons_succ, List.setIfInBounds_toArray, List.set_cons_zero, List.set_cons_succ]
        first
          | (refine wpAnyH_take (i := 10) (v := undef) rfl (by kernel_rfl) (by kernel_rfl) (by kernel_rfl) (fun _ _ _ h => h) (Or.inr ⟨by rfl, rfl⟩) (by assumption) ?_)
          | (refine wpAnyH_take (i := 10) (v := ?_) rfl (by kernel_rfl) (by kernel_rfl) (by kernel_rfl) (fun _ _ _ h => h) (Or.inl ⟨by rfl, ?_⟩) (by assumption) ?_
             rotate_left
             (intro w hSw
              (try dsimp only at hSw)
              (go_simp <;> with_reducible rfl)))
        try simp only [Act.put, List.getElem_toArray, List.getElem_cons_zero, List.getElem_cons_succ, List.setIfInBounds_toArray, List.set_cons_zero, List.set_cons_succ]
        refine wpAnyH_ready (rs := [1, 11]) (by kernel_rfl) (by simp) ?_
        refine AllReadyH.cons (i := 1) (o := _) rfl (fun K hK => ?_) ?_
        · go_simp
          refine hK.out _ _ ⟨xP6, d06, y06, y16⟩ (fun hHeld => ?_)
          clear hK K
          try simp only [Act.put, List.getElem_toArray, List.getElem_cons_zero, List.getElem_cons_succ, List.setIfInBounds_toArray, List.set_cons_zero, List.set_cons_succ]
          refine wpAnyH_ready (rs := [11]) (by kernel_rfl) (by simp) ?_
          refine AllReadyH.cons (i := 11) (o := _) rfl (fun K hK => ?_) ?_
          rotate_left
          · exact AllReadyH.nil
          go_simp
          refine hK.out _ _ ⟨xP7, d07, y07, y17⟩ (fun hHeld => ?_)
          clear hK K
          try simp only [Act.put, List.getElem_toArray, List.getElem_cons_zero, List.getElem_cons_succ, List.setIfInBounds_toArray, List.set_cons_zero, List.set_cons_succ]
          refine wpAnyH_ready (rs := [12]) (by kernel_rfl) (by simp) ?_
          refine AllReadyH.cons (i := 12) (o := _) rfl (fun K hK => ?_) ?_
          rotate_left
          · exact AllReadyH.nil
          refine step_append_lies _ (by rfl) _ _ _ (by rfl) bo 32 i0 (.agg #[.string ⟨#[]⟩, .slice none 0 0, .int .i64 0]) 3 48 Tryd.underlying24 hi0 hz0 hz1 hz2 rfl (by omega) _ us.length (cellsC us) (by rfl) A7.out ⟨w6.heap.size, 0, none⟩ 1 1 [.string nm, .slice va kk.len vc, .int .i64 kb] (by rfl) (by rfl) NB.out (by simp [Value.oneCell']) (by omega) (by simp [maxLen]; omega) (by omega) Z7.out (w6.heap.size + 1) (by simp) ?_
          intro gg cap2 w8 hown hgrow hgat hglt
          have GR := (Chg.refl (fun x => u.ownBlock = some x) (w6.alloc (.cells #[.string nm, .slice va kk.len vc, .int .i64 kb] 32))).grown hgrow (fun r e => Or.inl e)
          have nO : ¬ u.ownBlock = some O := fun e => by have := (RL.out O e).1; have := HO.out; omega
          have T8 := GR.blk nO HT7.out
          have zO8 := blk_cell T8 1
          have fO8 := blk_free T8 1
          simp only [List.getElem?_toArray, List.getElem?_cons_zero, List.getElem?_cons_succ] at zO8
          have xP8 := GR.cell (fun e => (lO.out.2.2 P e).1 rfl) xP7
          have d08 := GR.cell (fun e => (lO.out.2.2 g e).2 rfl) d07
          have y08 := GR.cell (fun e => by have := (RL.out A e).2; have := SA.out; omega) y07
          have y18 := GR.cell (fun e => by have := (RL.out A e).2; have := SA.out; omega) y17
          have M8 := N7.out.grown hgrow (u' := .slice (some ⟨gg, 0, none⟩) (us.length + 1) cap2) (by rcases hgat with h | h; exact Or.inl (by rw [h]; rfl); exact Or.inr (by rw [h, al_sz]; rfl))
          have G9 := Chg.set w8 O 1 (.slice (some ⟨gg, 0, none⟩) (us.length + 1) cap2)
          have T9 : Hid ((w8.setCell ⟨O, 1, none⟩ (.slice (some ⟨gg, 0, none⟩) (us.length + 1) cap2)).heap[O]? = some (.cells #[.slice ba (min bn 30) bc, .slice (some ⟨gg, 0, none⟩) (us.length + 1) cap2] 26)) := hide (blk_set T8 1 (.slice (some ⟨gg, 0, none⟩) (us.length + 1) cap2))
          have A9 := hide (caccT_snoc (own_chg hown G9 (fun x hx e => by have := HO.out; omega)))
          have M9 := hide (M8.chg G9 (fun x hx _ _ e => by have := HO.out; omega))
          have Z9 := hide (Nat.le_trans Z7.out (Nat.le_trans GR.size G9.size))
          have C9 : Hid (Chg (fun x => x = O) w1 (w8.setCell ⟨O, 1, none⟩ (.slice (some ⟨gg, 0, none⟩) (us.length + 1) cap2))) := hide (by
            have h1 : Chg (fun x => x = O ∨ bo ≤ x) w1 _ := ((C7.out.mono (fun x _ h => Or.inl h)).trans (GR.mono (fun x _ h => Or.inr (RL.out x h).1))).trans (G9.mono (fun x _ h => Or.inl h))
            exact h1.mono (fun x hx h => by have := HS.out; omega))
          have xP9 := G9.cell (lO.out.1) xP8
          have d09 := G9.cell (lO.out.2.1) d08
          have y09 := G9.cell (fun e => by have := Z0.out; have := SA.out; have := HO.out; have := HA.out; omega) y08
          have y19 := G9.cell (fun e => by have := Z0.out; have := SA.out; have := HO.out; have := HA.out; omega) y18
          have HL9 : Hid ((us ++ [(nm, (Value.slice va kk.len vc), kb)]).length = i + 1) := hide (by rw [List.length_append, HUL.out]; rfl)
          have F9 : Hid (VInvT 26 32 w1 (w8.setCell ⟨O, 1, none⟩ (.slice (some ⟨gg, 0, none⟩) (us.length + 1) cap2)) O bo (.slice ba (min bn 30) bc) (toCs cs) (i + 1)) := hide ⟨_, us ++ [(nm, .slice va kk.len vc, kb)], T9, A9, HL9, M9, Z9, C9⟩
          clear GR T8 M8 G9 hown hgrow hgat nO T9 A9 HL9 M9 Z9 C9
          refine hK.out _ _ ⟨xP8, d08, y08, y18⟩ (fun hHeld => ?_)
          clear hK K
          try simp only [Act.put, List.getElem_toArray, List.getElem_cons_zero, List.getElem_cons_succ, List.setIfInBounds_toArray, List.set_cons_zero, List.set_cons_succ]
          first
            | (refine wpAnyH_take (i := 13) (v := undef) rfl (by kernel_rfl) (by kernel_rfl) (by kernel_rfl) (fun _ _ _ h => h) (Or.inr ⟨by rfl, rfl⟩) (by assumption) ?_)
            | (refine wpAnyH_take (i := 13) (v := ?_) rfl (by kernel_rfl) (by kernel_rfl) (by kernel_rfl) (fun _ _ _ h => h) (Or.inl ⟨by rfl, ?_⟩) (by assumption) ?_
               rotate_left
               (intro w hSw
                (try dsimp only at hSw)
                (go_simp <;> with_reducible rfl)))
          try simp only [Act.put, List.getElem_toArray, List.getElem_cons_zero, List.getElem_cons_succ, List.setIfInBounds_toArray, List.set_cons_zero, List.set_cons_succ]
          refine wpAnyH_ready (rs := [14]) (by kernel_rfl) (by simp) ?_
          refine AllReadyH.cons (i := 14) (o := _) rfl (fun K hK => ?_) ?_
          rotate_left
          · exact AllReadyH.nil
          go_simp
          refine hK.out _ _ ⟨xP9, d09, y09, y19⟩ (fun hHeld => ?_)
          clear hK K
          try simp only [Act.put, List.getElem_toArray, List.getElem_cons_zero, List.getElem_cons_succ, List.setIfInBounds_toArray, List.set_cons_zero, List.set_cons_succ]
          refine wpAnyH_done (by kernel_rfl) ?_ _
          go_wp2_with fail
          go_roundw
          case rel => exact ⟨i + 1, by omega, by go_num, F9⟩
          case measure => simp [intOf]; omega
        refine AllReadyH.cons (i := 11) (o := _) rfl (fun K hK => ?_) ?_
        rotate_left
        · exact AllReadyH.nil
        go_simp
        refine hK.out _ _ ⟨xP7, d07, y07, y17⟩ (fun hHeld => ?_)
        clear hK K
        try simp only [Act.put, List.getElem_toArray, List.getElem_cons_zero, List.getElem_cons_succ, List.setIfInBounds_toArray, List.set_cons_zero, List.set_cons_succ]
        refine wpAnyH_ready (rs := [1]) (by kernel_rfl) (by simp) ?_
        refine AllReadyH.cons (i := 1) (o := _) rfl (fun K hK => ?_) ?_
        rotate_left
        · exact AllReadyH.nil
        go_simp
        refine hK.out _ _ ⟨xP7, d07, y07, y17⟩ (fun hHeld => ?_)
        clear hK K
        try simp only [Act.put, List.getElem_toArray, List.getElem_cons_zero, List.getElem_cons_succ, List.setIfInBounds_toArray, List.set_cons_zero, List.set_cons_succ]
        refine wpAnyH_ready (rs := [12]) (by kernel_rfl) (by simp) ?_
        refine AllReadyH.cons (i := 12) (o := _) rfl (fun K hK => ?_) ?_
        rotate_left
        · exact AllReadyH.nil
        refine step_append_lies _ (by rfl) _ _ _ (by rfl) bo 32 i0 (.agg #[.string ⟨#[]⟩, .slice none 0 0, .int .i64 0]) 3 48 Tryd.underlying24 hi0 hz0 hz1 hz2 rfl (by omega) _ us.length (cellsC us) (by rfl) A7.out ⟨w6.heap.size, 0, none⟩ 1 1 [.string nm, .slice va kk.len vc, .int .i64 kb] (by rfl) (by rfl) NB.out (by simp [Value.oneCell']) (by omega) (by simp [maxLen]; omega) (by omega) Z7.out (w6.heap.size + 1) (by simp) ?_
        intro gg cap2 w8 hown hgrow hgat hglt
        have GR := (Chg.refl (fun x => u.ownBlock = some x) (w6.alloc (.cells #[.string nm, .slice va kk.len vc, .int .i64 kb] 32))).grown hgrow (fun r e => Or.inl e)
        have nO : ¬ u.ownBlock = some O := fun e => by have := (RL.out O e).1; have := HO.out; omega
        have T8 := GR.blk nO HT7.out
        have zO8 := blk_cell T8 1
        have fO8 := blk_free T8 1
        simp only [List.getElem?_toArray, List.getElem?_cons_zero, List.getElem?_cons_succ] at zO8
        have xP8 := GR.cell (fun e => (lO.out.2.2 P e).1 rfl) xP7
        have d08 := GR.cell (fun e => (lO.out.2.2 g e).2 rfl) d07
        have y08 := GR.cell (fun e => by have := (RL.out A e).2; have := SA.out; omega) y07
        have y18 := GR.cell (fun e => by have := (RL.out A e).2; have := SA.out; omega) y17
        have M8 := N7.out.grown hgrow (u' := .slice (some ⟨gg, 0, none⟩) (us.length + 1) cap2) (by rcases hgat with h | h; exact Or.inl (by rw [h]; rfl); exact Or.inr (by rw [h, al_sz]; rfl))
        have G9 := Chg.set w8 O 1 (.slice (some ⟨gg, 0, none⟩) (us.length + 1) cap2)
        have T9 : Hid ((w8.setCell ⟨O, 1, none⟩ (.slice (some ⟨gg, 0, none⟩) (us.length + 1) cap2)).heap[O]? = some (.cells #[.slice ba (min bn 30) bc, .slice (some ⟨gg, 0, none⟩) (us.length + 1) cap2] 26)) := hide (blk_set T8 1 (.slice (some ⟨gg, 0, none⟩) (us.length + 1) cap2))
        have A9 := hide (caccT_snoc (own_chg hown G9 (fun x hx e => by have := HO.out; omega)))
        have M9 := hide (M8.chg G9 (fun x hx _ _ e => by have := HO.out; omega))
        have Z9 := hide (Nat.le_trans Z7.out (Nat.le_trans GR.size G9.size))
        have C9 : Hid (Chg (fun x => x = O) w1 (w8.setCell ⟨O, 1, none⟩ (.slice (some ⟨gg, 0, none⟩) (us.length + 1) cap2))) := hide (by
          have h1 : Chg (fun x => x = O ∨ bo ≤ x) w1 _ := ((C7.out.mono (fun x _ h => Or.inl h)).trans (GR.mono (fun x _ h => Or.inr (RL.out x h).1))).trans (G9.mono (fun x _ h => Or.inl h))
          exact h1.mono (fun x hx h => by have := HS.out; omega))
        have xP9 := G9.cell (lO.out.1) xP8
        have d09 := G9.cell (lO.out.2.1) d08
        have y09 := G9.cell (fun e => by have := Z0.out; have := SA.out; have := HO.out; have := HA.out; omega) y08
        have y19 := G9.cell (fun e => by have := Z0.out; have := SA.out; have := HO.out; have := HA.out; omega) y18
        have HL9 : Hid ((us ++ [(nm, (Value.slice va kk.len vc), kb)]).length = i + 1) := hide (by rw [List.length_append, HUL.out]; rfl)
        have F9 : Hid (VInvT 26 32 w1 (w8.setCell ⟨O, 1, none⟩ (.slice (some ⟨gg, 0, none⟩) (us.length + 1) cap2)) O bo (.slice ba (min bn 30) bc) (toCs cs) (i + 1)) := hide ⟨_, us ++ [(nm, .slice va kk.len vc, kb)], T9, A9, HL9, M9, Z9, C9⟩
        clear GR T8 M8 G9 hown hgrow hgat nO T9 A9 HL9 M9 Z9 C9
        refine hK.out _ _ ⟨xP8, d08, y08, y18⟩ (fun hHeld => ?_)
        clear hK K
        try simp only [Act.put, List.getElem_toArray, List.getElem_cons_zero, List.getElem_cons_succ, List.setIfInBounds_toArray, List.set_cons_zero, List.set_cons_succ]
        first
          | (refine wpAnyH_take (i := 13) (v := undef) rfl (by kernel_rfl) (by kernel_rfl) (by kernel_rfl) (fun _ _ _ h => h) (Or.inr ⟨by rfl, rfl⟩) (by assumption) ?_)
          | (refine wpAnyH_take (i := 13) (v := ?_) rfl (by kernel_rfl) (by kernel_rfl) (by kernel_rfl) (fun _ _ _ h => h) (Or.inl ⟨by rfl, ?_⟩) (by assumption) ?_
             rotate_left
             (intro w hSw
              (try dsimp only at hSw)
              (go_simp <;> with_reducible rfl)))
        try simp only [Act.put, List.getElem_toArray, List.getElem_cons_zero, List.getElem_cons_succ, List.setIfInBounds_toArray, List.set_cons_zero, List.set_cons_succ]
        refine wpAnyH_ready (rs := [14]) (by kernel_rfl) (by simp) ?_
        refine AllReadyH.cons (i := 14) (o := _) rfl (fun K hK => ?_) ?_
        rotate_left
        · exact AllReadyH.nil
        go_simp
        refine hK.out _ _ ⟨xP9, d09, y09, y19⟩ (fun hHeld => ?_)
        clear hK K
        try simp only [Act.put, List.getElem_toArray, List.getElem_cons_zero, List.getElem_cons_succ, List.setIfInBounds_toArray, List.set_cons_zero, List.set_cons_succ]
        refine wpAnyH_done (by kernel_rfl) ?_ _
        go_wp2_with fail
        go_roundw
        case rel => exact ⟨i + 1, by omega, by go_num, F9⟩
        case measure => simp [intOf]; omega
    · have TL := toCs_len cs
      by_cases hc1 : i < cs.length
      · have j1 : (i : Int) < (cs.length : Int) := by omega
        have j2 : ¬ (i : Int) < 30 := by omega
        have j3 : 30 ≤ i := by omega
        have hif : i = (toCs cs).length := by omega
        have BRr := hC.out.blk (by have := HO.out; omega) BR.out
        have zO := blk_cell hT.out 0
        have zO1 := blk_cell hT.out 1
        have cR0 := blk_cell BRr 0
        have cR1 := blk_cell BRr 1
        have fR0 := blk_free BRr 0
        have fR1 := blk_free BRr 1
        simp only [List.getElem?_toArray, List.getElem?_cons_zero, List.getElem?_cons_succ] at zO zO1 cR0 cR1
        obtain ⟨ua, uc, hue⟩ : ∃ ua uc, u = .slice ua us.length uc := by
          rcases (show wr.ownsRow bo 32 3 u us.length (cellsC us) from hA.out).2 with ⟨h1, h2⟩ | ⟨g, cap2, cur, h1, _⟩
          · exact ⟨_, _, by rw [h1, h2]⟩
          · exact ⟨_, _, h1⟩
        have T1 := blk_set BRr 0 (.slice ba (min bn 30) bc)
        have T2 := blk_set T1 1 u
        have S1 := Chg.set wr R 0 (.slice ba (min bn 30) bc)
        have S2 := Chg.set (wr.setCell ⟨R, 0, none⟩ (.slice ba (min bn 30) bc)) R 1 u
        have SS := S1.trans S2
        have AF := own_chg (show wr.ownsRow bo 32 3 u us.length (cellsC us) from hA.out) SS (fun x hx e => by have := HO.out; omega)
        have MF := hM.out.chg SS (fun x hx _ _ e => by have := HO.out; omega)
        have CF : Chg (fun _ => False) w ((wr.setCell ⟨R, 0, none⟩ (.slice ba (min bn 30) bc)).setCell ⟨R, 1, none⟩ u) := by
          have h1 : Chg (fun x => x = O ∨ x = R) w _ := (GG.out.none.trans (hC.out.mono (fun x _ h => Or.inl h))).trans (SS.mono (fun x _ h => Or.inr h))
          exact h1.mono (fun x hx h => by have := HO.out; omega)
        have F : Hid (Cns ((wr.setCell ⟨R, 0, none⟩ (.slice ba (min bn 30) bc)).setCell ⟨R, 1, none⟩ u) (fun x => w.heap.size ≤ x ∧ x < ((wr.setCell ⟨R, 0, none⟩ (.slice ba (min bn 30) bc)).setCell ⟨R, 1, none⟩ u).heap.size) u (toCs cs) ∧ Chg (fun _ => False) w ((wr.setCell ⟨R, 0, none⟩ (.slice ba (min bn 30) bc)).setCell ⟨R, 1, none⟩ u)) := hide ⟨caccT_cns AF (fun r e => by have h1 := World.ownsRow.lt AF r e; have := HO.out; exact ⟨by omega, h1.2⟩) (fun c hc => by
            unfold toCs at hc
            obtain ⟨d, hd, rfl⟩ := List.mem_map.1 hc
            exact ⟨by rw [toC_name]; exact HNM.out d (List.mem_of_mem_take hd), by have := toC_size d; omega⟩) (by rw [hL.out, hif]) (fun j h1 h2 => ⟨(MF.2 j h1 h2).1, (MF.2 j h1 h2).2.1, (MF.2 j h1 h2).2.2.up (fun x hx => ⟨by have := HO.out; omega, hx.2.1⟩)⟩), CF⟩
        have z0 : ((wr.setCell ⟨R, 0, none⟩ (.slice ba (min bn 30) bc)).setCell ⟨R, 1, none⟩ u).cell? ⟨R, 0, none⟩ = some (.slice ba (min bn 30) bc) := blk_cell T2 0
        have z1 : ((wr.setCell ⟨R, 0, none⟩ (.slice ba (min bn 30) bc)).setCell ⟨R, 1, none⟩ u).cell? ⟨R, 1, none⟩ = some u := blk_cell T2 1
        subst hue
        clear hif T1 T2 S1 S2 SS AF MF CF hT hA hL hM hZ hC BRr
        go_wp2_with fail
        generalize hwf : ((wr.setCell ⟨R, 0, none⟩ (.slice ba (min bn 30) bc)).setCell ⟨R, 1, none⟩ (.slice ua us.length uc)) = wF at *
        refine bodyPost_ret (fn := Tryd.f11) (v := .agg #[.slice ba (min bn 30) bc, .slice ua us.length uc]) (by simp [results, Tryd.results11, go_sem, z0, z1]) rfl ?_
        exact ⟨⟨_, rfl, F.out.1⟩, F.out.2⟩
      · have j1 : ¬ (i : Int) < (cs.length : Int) := by omega
        have hif : i = (toCs cs).length := by omega
        have BRr := hC.out.blk (by have := HO.out; omega) BR.out
        have zO := blk_cell hT.out 0
        have zO1 := blk_cell hT.out 1
        have cR0 := blk_cell BRr 0
        have cR1 := blk_cell BRr 1
        have fR0 := blk_free BRr 0
        have fR1 := blk_free BRr 1
        simp only [List.getElem?_toArray, List.getElem?_cons_zero, List.getElem?_cons_succ] at zO zO1 cR0 cR1
        obtain ⟨ua, uc, hue⟩ : ∃ ua uc, u = .slice ua us.length uc := by
          rcases (show wr.ownsRow bo 32 3 u us.length (cellsC us) from hA.out).2 with ⟨h1, h2⟩ | ⟨g, cap2, cur, h1, _⟩
          · exact ⟨_, _, by rw [h1, h2]⟩
          · exact ⟨_, _, h1⟩
        have T1 := blk_set BRr 0 (.slice ba (min bn 30) bc)
        have T2 := blk_set T1 1 u
        have S1 := Chg.set wr R 0 (.slice ba (min bn 30) bc)
        have S2 := Chg.set (wr.setCell ⟨R, 0, none⟩ (.slice ba (min bn 30) bc)) R 1 u
        have SS := S1.trans S2
        have AF := own_chg (show wr.ownsRow bo 32 3 u us.length (cellsC us) from hA.out) SS (fun x hx e => by have := HO.out; omega)
        have MF := hM.out.chg SS (fun x hx _ _ e => by have := HO.out; omega)
        have CF : Chg (fun _ => False) w ((wr.setCell ⟨R, 0, none⟩ (.slice ba (min bn 30) bc)).setCell ⟨R, 1, none⟩ u) := by
          have h1 : Chg (fun x => x = O ∨ x = R) w _ := (GG.out.none.trans (hC.out.mono (fun x _ h => Or.inl h))).trans (SS.mono (fun x _ h => Or.inr h))
          exact h1.mono (fun x hx h => by have := HO.out; omega)
        have F : Hid (Cns ((wr.setCell ⟨R, 0, none⟩ (.slice ba (min bn 30) bc)).setCell ⟨R, 1, none⟩ u) (fun x => w.heap.size ≤ x ∧ x < ((wr.setCell ⟨R, 0, none⟩ (.slice ba (min bn 30) bc)).setCell ⟨R, 1, none⟩ u).heap.size) u (toCs cs) ∧ Chg (fun _ => False) w ((wr.setCell ⟨R, 0, none⟩ (.slice ba (min bn 30) bc)).setCell ⟨R, 1, none⟩ u)) := hide ⟨caccT_cns AF (fun r e => by have h1 := World.ownsRow.lt AF r e; have := HO.out; exact ⟨by omega, h1.2⟩) (fun c hc => by
            unfold toCs at hc
            obtain ⟨d, hd, rfl⟩ := List.mem_map.1 hc
            exact ⟨by rw [toC_name]; exact HNM.out d (List.mem_of_mem_take hd), by have := toC_size d; omega⟩) (by rw [hL.out, hif]) (fun j h1 h2 => ⟨(MF.2 j h1 h2).1, (MF.2 j h1 h2).2.1, (MF.2 j h1 h2).2.2.up (fun x hx => ⟨by have := HO.out; omega, hx.2.1⟩)⟩), CF⟩
        have z0 : ((wr.setCell ⟨R, 0, none⟩ (.slice ba (min bn 30) bc)).setCell ⟨R, 1, none⟩ u).cell? ⟨R, 0, none⟩ = some (.slice ba (min bn 30) bc) := blk_cell T2 0
        have z1 : ((wr.setCell ⟨R, 0, none⟩ (.slice ba (min bn 30) bc)).setCell ⟨R, 1, none⟩ u).cell? ⟨R, 1, none⟩ = some u := blk_cell T2 1
        subst hue
        clear hif T1 T2 S1 S2 SS AF MF CF hT hA hL hM hZ hC BRr
        go_wp2_with fail
        generalize hwf : ((wr.setCell ⟨R, 0, none⟩ (.slice ba (min bn 30) bc)).setCell ⟨R, 1, none⟩ (.slice ua us.length uc)) = wF at *
        refine bodyPost_ret (fn := Tryd.f11) (v := .agg #[.slice ba (min bn 30) bc, .slice ua us.length uc]) (by simp [results, Tryd.results11, go_sem, z0, z1]) rfl ?_
        exact ⟨⟨_, rfl, F.out.1⟩, F.out.2⟩
end Go.Proofs.YtdoohocdaacnaaaDoor
