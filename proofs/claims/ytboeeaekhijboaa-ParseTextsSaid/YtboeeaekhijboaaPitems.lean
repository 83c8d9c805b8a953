/- The program's parser: all items. -/
import Derived.Test.YtboeeaekhijboaaPitem
namespace Go.Proofs.Ytboeeaekhijboaa
open Go.RowKit
set_option linter.unusedVariables false
set_option linter.unusedSimpArgs false

/-- an item's cells -/
abbrev Iv := Int × Value × Value × Int × Int
def cellsI (us : List Iv) : List Value := us.flatMap fun p => [.int .i64 p.1, p.2.1, p.2.2.1, .int .i64 p.2.2.2.1, .int .i64 p.2.2.2.2]
theorem cellsI_len (us : List Iv) : (cellsI us).length = us.length * 5 := by
 induction us with
 | nil => rfl
 | cons p r ih =>
   have e : cellsI (p :: r) = [.int .i64 p.1, p.2.1, p.2.2.1, .int .i64 p.2.2.2.1, .int .i64 p.2.2.2.2] ++ cellsI r := rfl
   rw [e, List.length_append, ih]; simp; omega
theorem cellsI_app (l r : List Iv) : cellsI (l ++ r) = cellsI l ++ cellsI r := by simp [cellsI]
theorem cellsI_get (l : List Iv) (i : Nat) (h : i < l.length) : (cellsI l)[i * 5]? = some (.int .i64 l[i].1) ∧ (cellsI l)[i * 5 + 1]? = some l[i].2.1 ∧ (cellsI l)[i * 5 + 2]? = some l[i].2.2.1 ∧ (cellsI l)[i * 5 + 3]? = some (.int .i64 l[i].2.2.2.1) ∧ (cellsI l)[i * 5 + 4]? = some (.int .i64 l[i].2.2.2.2) := by
 induction l generalizing i with
 | nil => simp at h
 | cons p r ih =>
   have e : cellsI (p :: r) = [.int .i64 p.1, p.2.1, p.2.2.1, .int .i64 p.2.2.2.1, .int .i64 p.2.2.2.2] ++ cellsI r := rfl
   cases i with
   | zero => rw [e]; simp
   | succ i =>
     obtain ⟨a, b, c, d, f⟩ := ih i (by simpa using h)
     have l5 : ([.int .i64 p.1, p.2.1, p.2.2.1, .int .i64 p.2.2.2.1, .int .i64 p.2.2.2.2] : List Value).length = 5 := rfl
     rw [e]
     refine ⟨?_, ?_, ?_, ?_, ?_⟩
     ·
      rw [List.getElem?_append_right (by rw [l5]; omega), l5, show (i + 1) * 5 - 5 = i * 5 by omega]; simpa using a
     ·
      rw [List.getElem?_append_right (by rw [l5]; omega), l5, show (i + 1) * 5 + 1 - 5 = i * 5 + 1 by omega]; simpa using b
     ·
      rw [List.getElem?_append_right (by rw [l5]; omega), l5, show (i + 1) * 5 + 2 - 5 = i * 5 + 2 by omega]; simpa using c
     ·
      rw [List.getElem?_append_right (by rw [l5]; omega), l5, show (i + 1) * 5 + 3 - 5 = i * 5 + 3 by omega]; simpa using d
     ·
      rw [List.getElem?_append_right (by rw [l5]; omega), l5, show (i + 1) * 5 + 4 - 5 = i * 5 + 4 by omega]; simpa using f
/-- the cells p are the item x -/
def IL (w : World) (X : Nat → Prop) (p : Iv) (x : It) : Prop := p.1 = x.1 ∧ Sw w X p.2.1 x.2.1 ∧ Ts w X p.2.2.1 x.2.2.1 ∧ p.2.2.2.1 = x.2.2.2.1 ∧ p.2.2.2.2 = x.2.2.2.2
theorem IL.chg {w w' : World} {X : Nat → Prop} {p : Iv} {x : It} (h : IL w X p x) {S : Nat → Prop} (g : Chg S w w') (hn : ∀ x, X x → ¬ S x) : IL w' X p x := ⟨h.1, h.2.1.chg g hn, h.2.2.1.chg g hn, h.2.2.2⟩
theorem IL.up {w : World} {X Y : Nat → Prop} {p : Iv} {x : It} (h : IL w X p x) (hb : ∀ x, X x → Y x) : IL w Y p x := ⟨h.1, h.2.1.up hb, h.2.2.1.up hb, h.2.2.2⟩
/-- The value is the row of items l. -/
def Iw (w : World) (X : Nat → Prop) (v : Value) (l : List It) : Prop :=
 ∃ a cap, v = .slice a l.length cap ∧ (l = [] ∨ ∃ g off, a = some ⟨g, off, none⟩ ∧ X g ∧ ∀ i (h : i < l.length), ∃ p : Iv, IL w X p l[i] ∧
  w.cell? ⟨g, off + i * 5, none⟩ = some (.int .i64 p.1) ∧ w.cell? ⟨g, off + i * 5 + 1, none⟩ = some p.2.1 ∧ w.cell? ⟨g, off + i * 5 + 2, none⟩ = some p.2.2.1 ∧ w.cell? ⟨g, off + i * 5 + 3, none⟩ = some (.int .i64 p.2.2.2.1) ∧ w.cell? ⟨g, off + i * 5 + 4, none⟩ = some (.int .i64 p.2.2.2.2))
theorem Iw.chg {w w' : World} {X : Nat → Prop} {v : Value} {l : List It} (h : Iw w X v l) {S : Nat → Prop} (g : Chg S w w') (hn : ∀ x, X x → ¬ S x) : Iw w' X v l := by
 obtain ⟨a, cap, e, h1⟩ := h
 refine ⟨a, cap, e, ?_⟩
 rcases h1 with h1 | ⟨b, off, e1, h2, h3⟩
 ·
  exact Or.inl h1
 ·
  refine Or.inr ⟨b, off, e1, h2, fun i hi => ?_⟩
  obtain ⟨p, hp, c0, c1, c2, c3, c4⟩ := h3 i hi
  exact ⟨p, hp.chg g hn, g.cell (hn b h2) c0, g.cell (hn b h2) c1, g.cell (hn b h2) c2, g.cell (hn b h2) c3, g.cell (hn b h2) c4⟩
theorem Iw.up {w : World} {X Y : Nat → Prop} {v : Value} {l : List It} (h : Iw w X v l) (hb : ∀ x, X x → Y x) : Iw w Y v l := by
 obtain ⟨a, cap, e, h1⟩ := h
 refine ⟨a, cap, e, ?_⟩
 rcases h1 with h1 | ⟨b, off, e1, h2, h3⟩
 ·
  exact Or.inl h1
 ·
  refine Or.inr ⟨b, off, e1, hb b h2, fun i hi => ?_⟩
  obtain ⟨p, hp, c⟩ := h3 i hi
  exact ⟨p, hp.up hb, c⟩
/-- what has been gathered so far: not in the row itself -/
def Same2 (w : World) (B : Nat) (u : Value) (l : List It) (us : List Iv) : Prop :=
 us.length = l.length ∧ ∀ j (h1 : j < l.length) (h2 : j < us.length), IL w (fun x => B ≤ x ∧ x < w.heap.size ∧ u.ownBlock ≠ some x) us[j] l[j]
theorem Same2.nil (w : World) (B : Nat) (u : Value) : Same2 w B u [] [] := ⟨rfl, fun j h1 => absurd h1 (Nat.not_lt_zero _)⟩
theorem Same2.chg {w w' : World} {B : Nat} {u : Value} {l : List It} {us : List Iv} (h : Same2 w B u l us) {S : Nat → Prop} (g : Chg S w w') (hn : ∀ x, B ≤ x → x < w.heap.size → u.ownBlock ≠ some x → ¬ S x) : Same2 w' B u l us :=
 ⟨h.1, fun j h1 h2 => ((h.2 j h1 h2).chg g (fun x hx => hn x hx.1 hx.2.1 hx.2.2)).up (fun x hx => ⟨hx.1, Nat.lt_of_lt_of_le hx.2.1 g.size, hx.2.2⟩)⟩
theorem Same2.grown {w w' : World} {B : Nat} {u u' : Value} {l : List It} {us : List Iv} (h : Same2 w B u l us) (hg : w.grownBy w' u.ownBlock) (hu : u'.ownBlock = u.ownBlock ∨ u'.ownBlock = some w.heap.size) : Same2 w' B u' l us :=
 ⟨h.1, fun j h1 h2 => ((h.2 j h1 h2).chg ((Chg.refl (fun x => u.ownBlock = some x) w).grown hg (fun r e => Or.inl e)) (fun x hx e => hx.2.2 e)).up (fun x hx => ⟨hx.1, Nat.lt_of_lt_of_le hx.2.1 hg.size, fun e => by
  rcases hu with hu | hu
  ·
   rw [hu] at e; exact hx.2.2 e
  ·
   rw [hu] at e; have := Option.some.inj e; omega⟩)⟩
theorem Same2.snoc {w : World} {B : Nat} {u : Value} {l : List It} {us : List Iv} (h : Same2 w B u l us) {p : Iv} {x : It} (hp : IL w (fun x => B ≤ x ∧ x < w.heap.size ∧ u.ownBlock ≠ some x) p x) : Same2 w B u (l ++ [x]) (us ++ [p]) := by
 refine ⟨by rw [List.length_append, List.length_append, h.1]; rfl, fun j h1 h2 => ?_⟩
 by_cases e : j < us.length
 ·
  rw [List.getElem_append_left e, List.getElem_append_left (by rw [← h.1]; exact e)]; exact h.2 j _ e
 ·
  have hj : j = us.length := by rw [List.length_append, List.length_singleton] at h2; omega
  have hl := h.1
  rw [List.getElem_append_right (by omega), List.getElem_append_right (by omega)]
  simp only [hj, hl, Nat.sub_self, List.getElem_cons_zero]
  exact hp
theorem iw_own {w : World} {base : Nat} {v : Value} {l : List It} {us : List Iv} (h : w.ownsRow base 46 5 v us.length (cellsI us)) (hs : Same2 w base v l us) : Iw w (fun x => base ≤ x ∧ x < w.heap.size) v l := by
 have hl := hs.1
 obtain ⟨h1, h2⟩ := id h
 rcases h2 with ⟨rfl, h3⟩ | ⟨g, cap, cur, rfl, h3⟩
 ·
  have : l = [] := List.eq_nil_of_length_eq_zero (by omega)
  subst this
  exact ⟨none, 0, rfl, Or.inl rfl⟩
 ·
  refine ⟨_, cap, by rw [← hl], Or.inr ⟨g, 0, rfl, World.ownsRow.lt h g rfl, fun i hi => ?_⟩⟩
  have hi2 : i < us.length := by omega
  obtain ⟨a, b, c, d, f⟩ := cellsI_get us i hi2
  have hc := World.ownsRow.cells h (g := g) rfl
  have ha := hc _ _ a
  have hb := hc _ _ b
  have hcc := hc _ _ c
  have hd := hc _ _ d
  have hf := hc _ _ f
  rw [add_at] at ha hb hcc hd hf
  rw [Nat.zero_add]
  exact ⟨us[i], (hs.2 i hi hi2).up (fun x hx => ⟨hx.1, hx.2.1⟩), ha, hb, hcc, hd, hf⟩
theorem iacc_snoc {w : World} {base : Nat} {v : Value} {us : List Iv} {p : Iv} (h : w.ownsRow base 46 5 v (us.length + 1) (cellsI us ++ [.int .i64 p.1, p.2.1, p.2.2.1, .int .i64 p.2.2.2.1, .int .i64 p.2.2.2.2])) : w.ownsRow base 46 5 v (us ++ [p]).length (cellsI (us ++ [p])) := by
 rw [List.length_append, cellsI_app]
 exact h

/-- items were read, or a fault lies there -/
def LOut (w : World) (rb pb : Nat) (v : Value) (ts : List Tok) (s : ByteArray) (o : Nat) (r : Rz (List It)) (e : Ending) (w' : World) : Prop :=
 (∃ u l, e = .returned u ∧ Iw w' (fun x => w.heap.size ≤ x ∧ x < w'.heap.size) u l ∧ ∀ q, r = .ok q → l = q.1) ∧ PS w' rb pb v ts s o r.st ∧ Chg (Pw rb pb) w w'
/-- what the loop over items keeps -/
def LInv (w wr : World) (rb pb : Nat) (v : Value) (ts : List Tok) (s : ByteArray) (R : Rz (List It)) (u : Value) (g : Nat) : Prop :=
 ∃ (st : St) (l : List It) (us : List Iv), Hid (PS wr rb pb v ts s 0 st) ∧ Hid (wr.ownsRow w.heap.size 46 5 u us.length (cellsI us)) ∧ Hid (Same2 wr w.heap.size u l us) ∧ Hid (Chg (Pw rb pb) w wr) ∧
  Hid ((∃ k n, st = .ok k ∧ R = itemsS ts s n l k ∧ n + l.length = 1000 ∧ g = n + 1) ∨ (∃ x, st = .error x ∧ R = .error x ∧ g = 0)) ∧ Hid (l.length ≤ 1000)
theorem info46 : (Try.prog.info? 46).map (fun i => (i.zero, i.size, i.bytes)) = some (some (.agg #[.int .i64 0, .slice none 0 0, .slice none 0 0, .int .i64 0, .int .i64 0]), 5, 72) := by kernel_rfl

set_option maxRecDepth 100000 in
set_option maxHeartbeats 16000000 in
theorem items_any {rb pb : Nat} {v : Value} {ts : List Tok} {s : ByteArray} {k0 : Nat} {w : World} (hk4 : ∀ t ∈ ts, t.1 ≠ 4) (h : PS w rb pb v ts s 0 (.ok k0)) :
  Calls Try.prog 30 #[.pointer (some ⟨pb, 0, none⟩)] w (LOut w rb pb v ts s 0 (itemsS ts s 1000 [] k0)) := by
 obtain ⟨i0, hi0, hz0, hz1, hz2⟩ := info_parts info46
 have HL := hide h.lt
 have HK4 : Hid (∀ k, (tokAt ts s k 0).1 = 4 ↔ ¬ k < ts.length) := hide (fun k => by
  by_cases hk : k < ts.length
  ·
   rw [tokAt_in (by omega) (by omega) (show k + (0 : Int).toNat < ts.length from hk)]
   exact ⟨fun e => absurd e (hk4 _ (List.getElem_mem _)), fun e => absurd hk e⟩
  ·
   rw [tokAt_end (Or.inr (by omega))]
   exact ⟨fun _ => hk, fun _ => rfl⟩)
 obtain ⟨R, hR⟩ : ∃ R, itemsS ts s 1000 [] k0 = R := ⟨_, rfl⟩
 have I0 : Hid (LInv w w rb pb v ts s R (.slice none 0 0) 1001) := hide ⟨.ok k0, [], [], h, World.ownsRow_nil _ _ _ _, Same2.nil _ _ _, Chg.refl _ _, Or.inl ⟨k0, 1000, rfl, hR.symm, rfl, rfl⟩, Nat.zero_le _⟩
 rw [hR]
 clear hR h hk4
 go_enter Try.func30, Try.ntmps30
 go_wp2_with fail
 go_loopg [3] 1001 (fun g u wr => Hid (LInv w wr rb pb v ts s R u g))
 case atStart => exact I0
 case round =>
  have hI := hrel
  clear I0 hrel
  obtain ⟨st, l, us, H4, O4, M4, G4, J4, L4⟩ := hI.out
  clear hI
  obtain ⟨c0, _, _, _, _, _⟩ := H4.out.cells
  cases st with
  | error x =>
    have QF : Hid (R.st = .error x ∧ ∀ q, R = .ok q → l = q.1) := hide (by
     rcases J4.out with ⟨k, f, e0, -⟩ | ⟨y, e0, e, -⟩
     ·
      cases e0
     ·
      cases e0
      rw [e]
      exact ⟨rfl, fun q hq => by cases hq⟩)
    have H5 : Hid (PS wr rb pb v ts s 0 R.st) := hide (by rw [QF.out.1]; exact H4.out)
    have W5 := hide (iw_own O4.out M4.out)
    clear J4
    go_wp2_with fail
    refine (ok_err H4.out).mono ?_
    rintro e w' ⟨rfl, rfl⟩
    go_wp2_with fail
    go_ret
    exact ⟨⟨_, l, rfl, W5.out, QF.out.2⟩, H5.out, G4.out⟩
  | ok k =>
    obtain ⟨n, ER, EN, EG⟩ : ∃ n, Hid (R = itemsS ts s n l k) ∧ Hid (n + l.length = 1000) ∧ Hid (gk = n + 1) := by
     rcases J4.out with ⟨k', f, e0, e, hf, hg⟩ | ⟨y, e0, e, -⟩
     ·
      cases e0; exact ⟨f, e, hf, hg⟩
     ·
      cases e0
    have PK := hide (fun w' (h : PS w' rb pb v ts s 0 (.ok k)) => peek_some rb rb v ts s k 0 h.le (by have := h.env.len; omega) (by have := h.env.size; omega) w' h.rd h.tks)
    have K4 := hide (HK4.out k)
    obtain ⟨t, ht⟩ : ∃ t, tokAt ts s k 0 = t := ⟨_, rfl⟩
    rw [ht] at PK K4
    clear J4 ht
    obtain ⟨t0, t1, t2⟩ := t
    have etv : tokV (t0, t1, t2) = .agg #[.int .i64 t0, .string t1, .int .i64 (t2 : Int)] := rfl
    rw [etv] at PK
    dsimp only at K4
    have fl0 := field75_0 (.int .i64 t0) (.string t1) (.int .i64 (t2 : Int))
    clear etv
    go_wp2_with fail
    refine (ok_ok H4.out).mono ?_
    rintro e w' ⟨rfl, rfl⟩
    go_wp2_with fail
    refine (PK.out wr H4.out).mono ?_
    rintro e w5 ⟨rfl, g5⟩
    have H5 := hide (H4.out.chg g5 (fun _ _ h => h))
    have O5 := hide (own_chgS O4.out g5 (fun _ _ h => h))
    have M5 := hide (M4.out.chg g5 (fun _ _ _ _ h => h))
    have G5 := hide (G4.out.trans g5.none)
    clear g5 c0 H4 O4 M4 G4
    by_cases h4 : t0 = 4
    ·
     have e4 : (t0 != 4) = false := by simp [h4]
     have hge : ¬ k < ts.length := K4.out.1 h4
     have ER2 : Hid (R = .ok (l, k)) := hide (by
      rw [ER.out]
      cases n with
      | zero => simp only [itemsS]; rw [if_neg hge]
      | succ n => simp only [itemsS]; rw [if_neg hge])
     have H6 : Hid (PS w5 rb pb v ts s 0 R.st) := hide (by rw [ER2.out]; exact H5.out)
     have W6 := hide (iw_own O5.out M5.out)
     clear hge h4
     go_wp2_with fail
     go_ret
     exact ⟨⟨_, l, rfl, W6.out, fun q hq => by rw [ER2.out] at hq; cases hq; rfl⟩, H6.out, G5.out⟩
    ·
     have e4 : (t0 != 4) = true := by simpa using h4
     have hlt : k < ts.length := Classical.byContradiction (fun hn => h4 (K4.out.2 hn))
     have HLT := hide hlt
     have hul : us.length = l.length := M5.out.1
     have HUL := hide hul
     obtain ⟨ua, uc, rfl⟩ : ∃ ua uc, u3 = Value.slice ua us.length uc := by
      rcases O5.out.2 with ⟨h1, h2⟩ | ⟨g, cap2, cur, h1, _⟩
      ·
       exact ⟨_, _, by rw [h1, h2]⟩
      ·
       exact ⟨_, _, h1⟩
     clear h4 hlt hul
     by_cases h1000 : us.length = 1000
     ·
      have e5 : ((us.length : Int) == 1000) = true := by simp; omega
      have ER2 : Hid (R = .error (2, k)) := hide (by
       rw [ER.out]
       obtain rfl : n = 0 := by have := EN.out; have := HUL.out; omega
       simp only [itemsS]; rw [if_pos HLT.out])
      have FA := hide (fail_ok 2 (Or.inl rfl) H5.out)
      clear h1000
      go_wp2_with fail
      refine FA.out.mono ?_
      rintro e w6 ⟨rfl, h6, g6⟩
      have H6 : Hid (PS w6 rb pb v ts s 0 R.st) := hide (by rw [ER2.out]; exact h6)
      have W6 := hide ((iw_own (own_chgS O5.out g6 (fun x hx e => by have := HL.out; omega)) (M5.out.chg g6 (fun x hx _ _ e => by have := HL.out; omega))))
      have G6 := hide (G5.out.trans (g6.mono (T := Pw rb pb) (fun x _ h => Or.inl h)))
      clear h6 g6 FA
      go_wp2_with fail
      go_ret
      exact ⟨⟨_, l, rfl, W6.out, fun q hq => by rw [ER2.out] at hq; cases hq⟩, H6.out, G6.out⟩
     ·
      have e5 : ((us.length : Int) == 1000) = false := by simp; omega
      have hus : us.length ≤ 1000 := by have := EN.out; have := HUL.out; omega
      obtain ⟨n', rfl⟩ : ∃ n', n = n' + 1 := ⟨n - 1, by have := EN.out; have := HUL.out; omega⟩
      have ER2 : Hid (R = (itemS ts s k).bind fun x k1 => itemsS ts s n' (l ++ [x]) k1) := hide (by rw [ER.out]; simp only [itemsS]; rw [if_pos HLT.out])
      have IT := hide (item_any H5.out)
      generalize itemS ts s k = r at *
      have RL := hide (fun q (e : (Value.slice ua us.length uc).ownBlock = some q) => World.ownsRow.lt O5.out q e)
      clear h1000 ER
      go_wp2_with fail
      refine IT.out.mono ?_
      rintro e w6 ⟨⟨uv, x, rfl, ⟨u1, u2, rfl, s1, s2⟩, hq⟩, h6, g6⟩
      obtain ⟨x0, x1, x2, x3, x4⟩ := x
      obtain ⟨b1, d1, rfl, _⟩ := id s1
      obtain ⟨b2, d2, rfl, _⟩ := id s2
      dsimp only at *
      have GA := al w6 (.cells #[.int .i64 x0, .slice b1 x1.length d1, .slice b2 x2.len d2, .int .i64 x3, .int .i64 x4] 46)
      have H7 := hide (h6.chg GA (fun _ _ h => h))
      have O7 := hide (own_chgS (own_chgS O5.out g6 (fun x hx e => by have := HL.out; rcases e with e | e <;> omega)) GA (fun _ _ h => h))
      have M7 := hide ((M5.out.chg g6 (fun x hx _ _ e => by have := HL.out; rcases e with e | e <;> omega)).chg GA (fun _ _ _ _ h => h))
      have G7 := hide ((G5.out.trans g6).trans GA.none)
      have hz5 := g6.size
      have hz0 := G5.out.size
      have IL7 := hide ((show IL w6 (fun x => w5.heap.size ≤ x ∧ x < w6.heap.size) (x0, .slice b1 x1.length d1, .slice b2 x2.len d2, x3, x4) (x0, x1, x2, x3, x4) from ⟨rfl, s1, s2, rfl, rfl⟩).chg GA (fun _ _ h => h))
      have SN := hide (M7.out.snoc (IL7.out.up (fun x hx => ⟨by omega, by have := GA.size; omega, fun e => by have := (RL.out x e).2; omega⟩)))
      have N7 := hide (World.news_of_block (cs := #[.int .i64 x0, .slice b1 x1.length d1, .slice b2 x2.len d2, .int .i64 x3, .int .i64 x4]) (t := 46) (fr := (0, 0)) (heap_alloc_new w6 _))
      have P7 : w.heap.size ≤ (w6.alloc (.cells #[.int .i64 x0, .slice b1 x1.length d1, .slice b2 x2.len d2, .int .i64 x3, .int .i64 x4] 46)).heap.size := by have := G7.out.size; exact this
      have HQ := hide hq
      clear h6 g6 GA hz5 hz0 s1 s2 hq IT O5 M5 IL7 M7
      go_wp2_with (at_builtin; refine wpList_append_lies _ rfl _ _ 22 rfl w.heap.size 46 i0 (.agg #[.int .i64 0, .slice none 0 0, .slice none 0 0, .int .i64 0, .int .i64 0]) 5 72 Try.underlying22 hi0 ‹_› hz1 hz2 rfl (by decide) _ us.length (cellsI us) rfl O7.out ⟨w6.heap.size, 0, none⟩ 1 1 [.int .i64 x0, .slice b1 x1.length d1, .slice b2 x2.len d2, .int .i64 x3, .int .i64 x4] rfl rfl N7.out (by simp [Value.oneCell']) (by omega) (by simp [maxLen]; omega) (by omega) P7 (w6.heap.size + 1) (by simp) ?_; intro gg cap2 w8 hown hgrow hgat hglt)
      have g8 := own_grow_chg O7.out hgrow
      have H8 := hide (H7.out.chg g8 (fun x hx e => by have := HL.out; omega))
      have G8 : Hid (Chg (Pw rb pb) w w8) := hide (((G7.out.mono (T := fun x => Pw rb pb x ∨ w.heap.size ≤ x) (fun x _ h => Or.inl h)).trans (g8.mono (fun x _ h => Or.inr h))).mono (fun x hx e => by
       rcases e with e | e
       ·
        exact e
       ·
        omega))
      have O8 := hide (iacc_snoc (p := (x0, .slice b1 x1.length d1, .slice b2 x2.len d2, x3, x4)) hown)
      have M8 := hide (SN.out.grown hgrow (u' := .slice (some ⟨gg, 0, none⟩) (us.length + 1) cap2) (by rcases hgat with h | h; exact Or.inl (by have h' : (Value.slice ua us.length uc).ownBlock = some gg := h; rw [h']; rfl); exact Or.inr (by rw [h, al_sz]; rfl)))
      have I8 : Hid (∃ g', g' < gk ∧ LInv w w8 rb pb v ts s R (.slice (some ⟨gg, 0, none⟩) (us.length + 1) cap2) g') := hide (by
       have h1 := EG.out
       have h2 := EN.out
       have h3 := HUL.out
       have hp := H8.out
       have er := ER2.out
       have hq := HQ.out
       have hl1 : (l ++ [((x0, x1, x2, x3, x4) : It)]).length = l.length + 1 := by simp
       cases r with
       | error y => exact ⟨0, by omega, .error y, l ++ [(x0, x1, x2, x3, x4)], _, hide hp, O8, M8, G8, hide (Or.inr ⟨y, rfl, er, rfl⟩), hide (by omega)⟩
       | ok q =>
         have e := hq q rfl
         exact ⟨n' + 1, by omega, .ok q.2, l ++ [(x0, x1, x2, x3, x4)], _, hide hp, O8, M8, G8, hide (Or.inl ⟨q.2, n', rfl, by rw [er, e]; rfl, by omega, rfl⟩), hide (by omega)⟩)
      clear g8 H8 G8 O8 M8 SN hown hgrow hgat hglt H7 O7 G7 HQ
      go_wp2_with fail
      obtain ⟨g', hg', HI⟩ := I8.out
      have HI := hide HI
      clear I8
      go_roundg g'
      case measure => exact hg'
      case rel => exact HI
end Go.Proofs.Ytboeeaekhijboaa
