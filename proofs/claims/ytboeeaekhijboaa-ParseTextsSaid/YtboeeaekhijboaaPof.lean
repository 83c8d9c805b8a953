/- Rows of nodes that are being made. The law's Of: a tree as new memory. -/
import Derived.Test.YtboeeaekhijboaaPwords
import Derived.Deep.AppendLies
import Derived.Test.YtboeeaekhijboaaShort
namespace Go.Proofs.Ytboeeaekhijboaa
open Go.RowKit
set_option linter.unusedVariables false
set_option linter.unusedSimpArgs false

/-- a cell stays, when an order is drawn (the unifier takes a minute for this behind four stores) -/
theorem drc {w : World} {a : Addr} {v : Value} (h : w.cell? a = some v) : w.drew.cell? a = some v := h
/-- a node's cells -/
abbrev Nc := Int × ByteArray × Int × Value
def cellsN (us : List Nc) : List Value := us.flatMap fun p => [.int .i64 p.1, .string p.2.1, .int .i64 p.2.2.1, p.2.2.2]
theorem cellsN_len (us : List Nc) : (cellsN us).length = us.length * 4 := by
 induction us with
 | nil => rfl
 | cons p r ih =>
   have e : cellsN (p :: r) = [.int .i64 p.1, .string p.2.1, .int .i64 p.2.2.1, p.2.2.2] ++ cellsN r := rfl
   rw [e, List.length_append, ih]; simp; omega
theorem cellsN_app (l r : List Nc) : cellsN (l ++ r) = cellsN l ++ cellsN r := by simp [cellsN]
theorem cellsN_get (l : List Nc) (i : Nat) (h : i < l.length) : (cellsN l)[i * 4]? = some (.int .i64 l[i].1) ∧ (cellsN l)[i * 4 + 1]? = some (.string l[i].2.1) ∧ (cellsN l)[i * 4 + 2]? = some (.int .i64 l[i].2.2.1) ∧ (cellsN l)[i * 4 + 3]? = some l[i].2.2.2 := by
 induction l generalizing i with
 | nil => simp at h
 | cons p r ih =>
   have e : cellsN (p :: r) = [.int .i64 p.1, .string p.2.1, .int .i64 p.2.2.1, p.2.2.2] ++ cellsN r := rfl
   cases i with
   | zero => rw [e]; simp
   | succ i =>
     obtain ⟨a, b, c, d⟩ := ih i (by simpa using h)
     have l5 : ([.int .i64 p.1, .string p.2.1, .int .i64 p.2.2.1, p.2.2.2] : List Value).length = 4 := rfl
     rw [e]
     refine ⟨?_, ?_, ?_, ?_⟩
     ·
      rw [List.getElem?_append_right (by rw [l5]; omega), l5, show (i + 1) * 4 - 4 = i * 4 by omega]; simpa using a
     ·
      rw [List.getElem?_append_right (by rw [l5]; omega), l5, show (i + 1) * 4 + 1 - 4 = i * 4 + 1 by omega]; simpa using b
     ·
      rw [List.getElem?_append_right (by rw [l5]; omega), l5, show (i + 1) * 4 + 2 - 4 = i * 4 + 2 by omega]; simpa using c
     ·
      rw [List.getElem?_append_right (by rw [l5]; omega), l5, show (i + 1) * 4 + 3 - 4 = i * 4 + 3 by omega]; simpa using d
/-- the cells are the node's -/
def NL (w : World) (X : Nat → Prop) (p : Nc) (n : Nd) : Prop := p.1 = n.kind ∧ p.2.1 = n.word ∧ p.2.2.1 = n.at ∧ Ts w X p.2.2.2 n.kids
theorem NL.chg {w w' : World} {X : Nat → Prop} {p : Nc} {n : Nd} (h : NL w X p n) {S : Nat → Prop} (g : Chg S w w') (hn : ∀ x, X x → ¬ S x) : NL w' X p n := ⟨h.1, h.2.1, h.2.2.1, h.2.2.2.chg g hn⟩
theorem NL.up {w : World} {X Y : Nat → Prop} {p : Nc} {n : Nd} (h : NL w X p n) (hb : ∀ x, X x → Y x) : NL w Y p n := ⟨h.1, h.2.1, h.2.2.1, h.2.2.2.up hb⟩

/-- An own row whose kids lie is a row of nodes. -/
theorem nacc_ts {w : World} {base : Nat} {E : TypeId} {v : Value} {us : List Nc} (h : w.ownsRow base E 4 v us.length (cellsN us)) {X : Nat → Prop} (hX : ∀ r, v.ownBlock = some r → X r) {f : Ns} (hl : f.toL.length = us.length)
  (he : ∀ i (h1 : i < f.toL.length) (h2 : i < us.length), NL w X us[i] f.toL[i]) : Ts w X v f := by
 have hlen := Ns.toL_len f
 obtain ⟨h1, h2⟩ := id h
 rcases h2 with ⟨rfl, h3⟩ | ⟨g, cap, cur, rfl, h3⟩
 ·
  have : f = .nil := Ns.len_nil (by omega)
  subst this
  exact Ts.nil _ _
 ·
  refine ⟨_, cap, by rw [← hlen, hl], Or.inr ⟨g, 0, rfl, hX g rfl, lies_mk (fun i hi => ?_)⟩⟩
  obtain ⟨a, b, c, d⟩ := cellsN_get us i (by omega)
  have hc := World.ownsRow.cells h (g := g) rfl
  have ha := hc _ _ a
  have hb := hc _ _ b
  have hcc := hc _ _ c
  have hd := hc _ _ d
  rw [add_at', Nat.zero_add] at ha hb hcc hd
  obtain ⟨e1, e2, e3, e4⟩ := he i hi (by omega)
  refine ⟨?_, ?_, ?_, us[i].2.2.2, ?_, e4⟩
  ·
   rw [Nat.zero_add, ← e1]; exact ha
  ·
   rw [Nat.zero_add, ← e2]; exact hb
  ·
   rw [Nat.zero_add, ← e3]; exact hcc
  ·
   rw [Nat.zero_add]; exact hd

/-- What is made so far: not in the row itself. -/
def Same4 (w : World) (B : Nat) (u : Value) (f : Ns) (us : List Nc) : Prop :=
 us.length ≤ f.toL.length ∧ ∀ j (h1 : j < f.toL.length) (h2 : j < us.length), NL w (fun x => B ≤ x ∧ x < w.heap.size ∧ u.ownBlock ≠ some x) us[j] f.toL[j]
theorem Same4.nil (w : World) (B : Nat) (u : Value) (f : Ns) : Same4 w B u f [] := ⟨Nat.zero_le _, fun j h1 h2 => absurd h2 (Nat.not_lt_zero _)⟩
theorem Same4.chg {w w' : World} {B : Nat} {u : Value} {f : Ns} {us : List Nc} (h : Same4 w B u f us) {S : Nat → Prop} (g : Chg S w w') (hn : ∀ x, B ≤ x → x < w.heap.size → u.ownBlock ≠ some x → ¬ S x) : Same4 w' B u f us :=
 ⟨h.1, fun j h1 h2 => (((h.2 j h1 h2)).chg g (fun x hx => hn x hx.1 hx.2.1 hx.2.2)).up (fun x hx => ⟨hx.1, Nat.lt_of_lt_of_le hx.2.1 g.size, hx.2.2⟩)⟩
/-- The row has grown. -/
theorem Same4.grown {w w' : World} {B : Nat} {u u' : Value} {f : Ns} {us : List Nc} (h : Same4 w B u f us) (hg : w.grownBy w' u.ownBlock) (hu : u'.ownBlock = u.ownBlock ∨ u'.ownBlock = some w.heap.size) : Same4 w' B u' f us :=
 ⟨h.1, fun j h1 h2 => ((h.2 j h1 h2).chg ((Chg.refl (fun x => u.ownBlock = some x) w).grown hg (fun r e => Or.inl e)) (fun x hx e => hx.2.2 e)).up (fun x hx => ⟨hx.1, Nat.lt_of_lt_of_le hx.2.1 hg.size, fun e => by
  rcases hu with hu | hu
  ·
   rw [hu] at e; exact hx.2.2 e
  ·
   rw [hu] at e; have := Option.some.inj e; omega⟩)⟩
theorem Same4.snoc {w : World} {B : Nat} {u : Value} {f : Ns} {us : List Nc} (h : Same4 w B u f us) {i : Nat} (hi : i < f.toL.length) (hl : us.length = i) {p : Nc} (hv : NL w (fun x => B ≤ x ∧ x < w.heap.size ∧ u.ownBlock ≠ some x) p (f.toL[i])) : Same4 w B u f (us ++ [p]) := by
 refine ⟨by rw [List.length_append, hl]; exact hi, fun j h1 h2 => ?_⟩
 by_cases e : j < us.length
 ·
  rw [List.getElem_append_left e]; exact h.2 j h1 e
 ·
  have : j = i := by rw [List.length_append, List.length_singleton] at h2; omega
  subst this
  subst hl
  simp only [List.getElem_append_right (Nat.le_refl _), Nat.sub_self, List.getElem_cons_zero]
  exact hv
theorem nacc_snoc {w : World} {base : Nat} {E : TypeId} {v : Value} {us : List Nc} {p : Nc} (h : w.ownsRow base E 4 v (us.length + 1) (cellsN us ++ [.int .i64 p.1, .string p.2.1, .int .i64 p.2.2.1, p.2.2.2])) : w.ownsRow base E 4 v (us ++ [p]).length (cellsN (us ++ [p])) := by
 rw [List.length_append, cellsN_app]
 exact h
end Go.Proofs.Ytboeeaekhijboaa
namespace Go.Proofs.Ytboeeaekhijboaa
open Go.RowKit
set_option linter.unusedVariables false
set_option linter.unusedSimpArgs false

/-- no row of kids is longer than a million -/
def Slim : Ns → Prop
 | .nil => True
 | .cons _ _ _ x r => x.len ≤ 1000000 ∧ Slim x ∧ Slim r
theorem slim_get : ∀ {f : Ns}, Slim f → ∀ i (h : i < f.toL.length), (f.toL[i]).kids.len ≤ 1000000 ∧ Slim (f.toL[i]).kids
 | .nil, _, i, h => absurd h (Nat.not_lt_zero _)
 | .cons k s a x r, hs, 0, h => ⟨hs.1, hs.2.1⟩
 | .cons k s a x r, hs, i + 1, h => slim_get (f := r) hs.2.2 i (by simpa [Ns.toL] using h)
theorem slim_size : ∀ {f : Ns}, f.size ≤ 1000000 → Slim f
 | .nil, _ => trivial
 | .cons k s a x r, h => by
   simp only [Ns.size] at h
   exact ⟨by have := Ns.len_size x; omega, slim_size (by omega), slim_size (by omega)⟩

theorem infoT55 : (Try.prog.info? 55).map (fun i => (i.zero, i.size, i.bytes)) = some (some (.agg #[.int .i64 0, .string ⟨#[]⟩, .int .i64 0, .slice none 0 0]), 4, 56) := by kernel_rfl

/-- what the loop keeps -/
def CInv18 (w1 wr : World) (O bo : Nat) (k : Int) (s : ByteArray) (a : Int) (f : Ns) (i : Nat) : Prop :=
 ∃ (u : Value) (us : List Nc), Hid (wr.heap[O]? = some (.cells #[.int .i64 k, .string s, .int .i64 a, u] 55)) ∧ Hid (wr.ownsRow bo 55 4 u us.length (cellsN us)) ∧ Hid (us.length = i) ∧ Hid (Same4 wr bo u f us) ∧ Hid (bo ≤ wr.heap.size) ∧ Hid (Chg (fun x => x = O) w1 wr)

set_option maxRecDepth 100000 in
set_option maxHeartbeats 32000000 in
theorem pof_step (n : Nat) (ih : ∀ (f : Ns), f.size < n → f.len ≤ 1000000 → Slim f → ∀ (k : Int) (s : ByteArray) (a : Int) (v : Value) (X : Nat → Prop) (w : World), (∀ x, X x → x < w.heap.size) → Ts w X v f →
  Calls Try.prog 18 #[.agg #[.int .i64 k, .string s, .int .i64 a, v]] w fun e w' => (∃ v', e = .returned (.agg #[.int .i64 k, .string s, .int .i64 a, v']) ∧ Ts w' (fun x => w.heap.size ≤ x ∧ x < w'.heap.size) v' f) ∧ Chg (fun _ => False) w w')
  (f : Ns) (hf : f.size ≤ n) (hfl : f.len ≤ 1000000) (hsl : Slim f) (k : Int) (s : ByteArray) (a : Int) (v : Value) (X : Nat → Prop) (w : World) (hB : ∀ x, X x → x < w.heap.size) (hv : Ts w X v f) :
  Calls Try.prog 18 #[.agg #[.int .i64 k, .string s, .int .i64 a, v]] w fun e w' => (∃ v', e = .returned (.agg #[.int .i64 k, .string s, .int .i64 a, v']) ∧ Ts w' (fun x => w.heap.size ≤ x ∧ x < w'.heap.size) v' f) ∧ Chg (fun _ => False) w w' := by
 obtain ⟨i0, hi0, hz0, hz1, hz2⟩ := info_parts infoT55
 have IH := hide ih
 have SL := hide hsl
 obtain ⟨av, cap, rfl, hx⟩ := id hv
 have HV := hide hv
 have HB := hide hB
 have htl := Ns.toL_len f
 have HF := hide hf
 have G1 := al w (.cells #[.int .i64 k, .string s, .int .i64 a, .slice av f.len cap] 51)
 have b0 := blk_new w (.cells #[.int .i64 k, .string s, .int .i64 a, .slice av f.len cap] 51)
 have G2 := al (w.alloc (.cells #[.int .i64 k, .string s, .int .i64 a, .slice av f.len cap] 51)) (.cells #[.int .i64 0, .string ⟨#[]⟩, .int .i64 0, .slice none 0 0] 55)
 have b1 := blk_new (w.alloc (.cells #[.int .i64 k, .string s, .int .i64 a, .slice av f.len cap] 51)) (.cells #[.int .i64 0, .string ⟨#[]⟩, .int .i64 0, .slice none 0 0] 55)
 have G3 := al ((w.alloc (.cells #[.int .i64 k, .string s, .int .i64 a, .slice av f.len cap] 51)).alloc (.cells #[.int .i64 0, .string ⟨#[]⟩, .int .i64 0, .slice none 0 0] 55)) (.cells #[.int .i64 k, .string s, .int .i64 a, .slice none 0 0] 55)
 have b2 := blk_new ((w.alloc (.cells #[.int .i64 k, .string s, .int .i64 a, .slice av f.len cap] 51)).alloc (.cells #[.int .i64 0, .string ⟨#[]⟩, .int .i64 0, .slice none 0 0] 55)) (.cells #[.int .i64 k, .string s, .int .i64 a, .slice none 0 0] 55)
 have b0' := G3.blk (G2.blk b0)
 have b1' := G3.blk b1
 rw [al_sz, al_sz] at b2
 rw [al_sz] at b1'
 have GG := hide (G1.trans (G2.trans G3))
 have sz3 : (((w.alloc (.cells #[.int .i64 k, .string s, .int .i64 a, .slice av f.len cap] 51)).alloc (.cells #[.int .i64 0, .string ⟨#[]⟩, .int .i64 0, .slice none 0 0] 55)).alloc (.cells #[.int .i64 k, .string s, .int .i64 a, .slice none 0 0] 55)).heap.size = w.heap.size + 3 := by rw [al_sz, al_sz, al_sz]
 have BP := hide b0'
 have BR := hide b1'
 have BO := hide b2
 have SZ := hide sz3
 clear hx hv ih hB hf G1 G2 G3 b0 b1 b2 b0' b1' sz3 hsl
 go_enter Try.func18, Try.ntmps18
 go_wp2_with fail
 generalize (((w.alloc (.cells #[.int .i64 k, .string s, .int .i64 a, .slice av f.len cap] 51)).alloc (.cells #[.int .i64 0, .string ⟨#[]⟩, .int .i64 0, .slice none 0 0] 55)).alloc (.cells #[.int .i64 k, .string s, .int .i64 a, .slice none 0 0] 55)) = w1 at *
 obtain ⟨P, hP⟩ : ∃ P, w.heap.size = P := ⟨_, rfl⟩
 obtain ⟨R, hR⟩ : ∃ R, P + 1 = R := ⟨_, rfl⟩
 obtain ⟨O, hO⟩ : ∃ O, R + 1 = O := ⟨_, rfl⟩
 have hZ := SZ.out
 rw [hP] at BP BR BO hZ ⊢
 rw [hR] at BR BO ⊢
 rw [hO] at BO
 try rw [hO]
 try rw [show P + 1 + 1 = O by omega]
 try rw [show P + 2 = O by omega]
 obtain ⟨bo, hbo⟩ : ∃ bo, w1.heap.size = bo := ⟨_, rfl⟩
 have HS := hide hbo
 have HO : Hid (O < bo ∧ R < O ∧ P < R ∧ w.heap.size = P) := hide (by refine ⟨by omega, by omega, by omega, hP⟩)
 clear hP hR hO hbo SZ hZ
 go_loopw [4] (fun iv wr => ∃ (i : Nat), i ≤ f.len ∧ iv = .int .i64 i ∧ Hid (CInv18 w1 wr O bo k s a f i)) (fun iv _ => f.len - (intOf iv).toNat)
 case atStart => exact ⟨0, Nat.zero_le _, rfl, hide ⟨_, [], BO, hide ⟨rfl, Or.inl ⟨rfl, rfl⟩⟩, hide rfl, hide (Same4.nil _ _ _ _), hide (Nat.le_of_eq HS.out.symm), hide (Chg.refl _ _)⟩⟩
 case round =>
  clear BO
  obtain ⟨i, hi, rfl, hIN⟩ := hrel
  obtain ⟨u, us, hT, hA, hL, hM, hZ, hC⟩ := hIN.out
  clear hIN
  have p3 := hC.out.cell (by have := HO.out; omega) (blk_cell BP.out 3)
  have p3 : wr.cell? ⟨P, 3, none⟩ = some (.slice av f.len cap) := p3
  by_cases hlt : i < f.len
  ·
   have hit : i < f.toL.length := by omega
   obtain ⟨la, lc, hlv, hl⟩ := HV.out
   rcases hl with h0 | ⟨g, off, rfl, hg, hl⟩
   ·
    subst h0; exact absurd hlt (Nat.not_lt_zero _)
   injection hlv with e1 e2 e3
   subst e1 e3
   obtain ⟨c0, c1, c2, vi, c3, ti⟩ := lies_get hl i hit
   obtain ⟨ka, kc, rfl, _⟩ := id ti
   have hks := Ns.kid_size f i hit
   have hsl := slim_get SL.out i hit
   have WC : Chg (fun x => x = O) w wr := GG.out.none.trans hC.out
   have nO : ∀ x, X x → ¬ x = O := fun x hx e => by have := HB.out x hx; have := HO.out; omega
   have d0 := WC.cell (nO g hg) c0
   have d1 := WC.cell (nO g hg) c1
   have d2 := WC.cell (nO g hg) c2
   have d3 := WC.cell (nO g hg) c3
   have ti5 := hide (ti.chg WC nO)
   have KI := hide (IH.out (f.toL[i]).kids (by have := HF.out; omega) hsl.1 hsl.2 (f.toL[i]).kind (f.toL[i]).word (f.toL[i]).at (.slice ka (f.toL[i]).kids.len kc) X)
   have BW := hide (fun x (hx : X x) => Nat.lt_of_lt_of_le (HB.out x hx) WC.size)
   have SN := hide (fun (w' : World) (v' : Value) (h : Same4 w' bo u f us) (hv' : Ts w' (fun x => bo ≤ x ∧ x < w'.heap.size ∧ u.ownBlock ≠ some x) v' (f.toL[i]).kids) => h.snoc hit hL.out (p := ((f.toL[i]).kind, (f.toL[i]).word, (f.toL[i]).at, v')) ⟨rfl, rfl, rfl, hv'⟩)
   have RL := hide (fun r (e : u.ownBlock = some r) => World.ownsRow.lt hA.out r e)
   have i1 : (0 : Int) ≤ (i : Int) := by omega
   have i2 : (i : Int) < (f.len : Int) := by omega
   have hus : us.length ≤ 1000001 := by have := hL.out; omega
   have HUL := hide hL.out
   have lP := hide (show ¬ P = O from fun e => by have := HO.out; omega)
   have lg := hide (nO g hg)
   have HG : Hid (g < w.heap.size) := hide (HB.out g hg)
   clear hl c0 c1 c2 c3 ti hks WC nO hsl
   dsimp only [Nd.kind, Nd.word, Nd.at, Nd.kids] at d0 d1 d2 d3 ti5 KI SN
   generalize (f.toL[i]).1 = k0 at *
   generalize (f.toL[i]).2.1 = k1 at *
   generalize (f.toL[i]).2.2.1 = k2 at *
   generalize (f.toL[i]).2.2.2 = k3 at *
   have zO := blk_cell hT.out 3
   simp only [gets] at zO
   go_wp2_with fail
   refine wp_region_held_drew (S := (fun w' => w'.cell? ⟨P, 3, none⟩ = some (.slice (some ⟨g, off, none⟩) f.len cap) ∧ w'.cell? ⟨g, off + i * 4, none⟩ = some (.int .i64 k0) ∧ w'.cell? ⟨g, off + i * 4 + 1, none⟩ = some (.string k1) ∧ w'.cell? ⟨g, off + i * 4 + 2, none⟩ = some (.int .i64 k2) ∧ w'.cell? ⟨g, off + i * 4 + 3, none⟩ = some (.slice ka k3.len kc))) (by kernel_rfl) (by go_keep) (fun hHeld => ?_)
   first
    | (refine tku 0 ?_)
    | (refine tkl 0 ?_ ?_ ?_
       rotate_left
       (intro w hSw
        (try dsimp only at hSw)
        (go_simp <;> with_reducible rfl)))
   try simp only [Act.put, puts]
   first
    | (refine tku 2 ?_)
    | (refine tkl 2 ?_ ?_ ?_
       rotate_left
       (intro w hSw
        (try dsimp only at hSw)
        (go_simp <;> with_reducible rfl)))
   try simp only [Act.put, puts]
   first
    | (refine tku 3 ?_)
    | (refine tkl 3 ?_ ?_ ?_
       rotate_left
       (intro w hSw
        (try dsimp only at hSw)
        (go_simp <;> with_reducible rfl)))
   try simp only [Act.put, puts]
   first
    | (refine tku 4 ?_)
    | (refine tkl 4 ?_ ?_ ?_
       rotate_left
       (intro w hSw
        (try dsimp only at hSw)
        (go_simp <;> with_reducible rfl)))
   try simp only [Act.put, puts]
   first
    | (refine tku 5 ?_)
    | (refine tkl 5 ?_ ?_ ?_
       rotate_left
       (intro w hSw
        (try dsimp only at hSw)
        (go_simp <;> with_reducible rfl)))
   try simp only [Act.put, puts]
   first
    | (refine tku 6 ?_)
    | (refine tkl 6 ?_ ?_ ?_
       rotate_left
       (intro w hSw
        (try dsimp only at hSw)
        (go_simp <;> with_reducible rfl)))
   try simp only [Act.put, puts]
   refine wpAnyH_ready (rs := [1, 7]) (by kernel_rfl) (by simp) ?_
   refine AllReadyH.cons (i := 1) (o := _) rfl (fun K hK => ?_) ?_
   ·
    go_simp
    refine hK.out _ _ ⟨p3, d0, d1, d2, d3⟩ (fun hHeld => ?_)
    clear hK K
    try simp only [Act.put, puts]
    refine rd1 7 (fun K hK => ?_)
    go_simp
    refine (KI.out wr.drew BW.out (ti5.out.chg ((Chg.refl (fun _ => False) wr).drew) (fun _ _ h => h))).mono ?_
    rintro e w6 ⟨⟨v', rfl, t6⟩, g6'⟩
    obtain ⟨va, vc, rfl, _⟩ := id t6
    have g6 := (Chg.refl (fun _ => False) wr).drew.trans g6'
    have p36 := g6.cell (fun h => h) p3
    have d06 := g6.cell (fun h => h) d0
    have d16 := g6.cell (fun h => h) d1
    have d26 := g6.cell (fun h => h) d2
    have d36 := g6.cell (fun h => h) d3
    have zO6 := g6.cell (fun h => h) zO
    have G7 := al w6 (.cells #[.int .i64 k0, .string k1, .int .i64 k2, .slice va k3.len vc] 55)
    have p37 := G7.cell (fun h => h) p36
    have d07 := G7.cell (fun h => h) d06
    have d17 := G7.cell (fun h => h) d16
    have d27 := G7.cell (fun h => h) d26
    have d37 := G7.cell (fun h => h) d36
    have zO7 := G7.cell (fun h => h) zO6
    have HT7 := hide (G7.blk (g6.blk hT.out))
    have A7 := hide (own_chgS (own_chgS hA.out g6 (fun x hx h => h)) G7 (fun x hx h => h))
    have M7 := (hM.out.chg g6 (fun _ _ _ _ h => h)).chg G7 (fun _ _ _ _ h => h)
    have C7 := hide ((hC.out.trans g6.none).trans G7.none)
    have T7 := (t6.chg G7 (fun _ _ h => h)).up (Y := fun x => bo ≤ x ∧ x < (w6.alloc (.cells #[.int .i64 k0, .string k1, .int .i64 k2, .slice va k3.len vc] 55)).heap.size ∧ u.ownBlock ≠ some x) (fun x hx => ⟨Nat.le_trans hZ.out hx.1, Nat.lt_of_lt_of_le hx.2 G7.size, fun e => by have h1 := (RL.out x e).2; have h3 : wr.heap.size ≤ x := hx.1; omega⟩)
    have N7 := hide (SN.out _ _ M7 T7)
    have Z7 := hide (Nat.le_trans hZ.out (Nat.le_trans g6.size G7.size))
    have NB := hide (World.news_of_block (cs := #[.int .i64 k0, .string k1, .int .i64 k2, .slice va k3.len vc]) (t := 55) (fr := (0, 0)) (heap_alloc_new w6 _))
    clear t6 g6 g6' G7 M7 T7
    go_simp
    refine hK.out _ _ ⟨p36, d06, d16, d26, d36⟩ (fun hHeld => ?_)
    clear hK K
    try simp only [Act.put, puts]
    refine rd1 8 (fun K hK => ?_)
    go_simp
    refine hK.out _ _ ⟨p37, d07, d17, d27, d37⟩ (fun hHeld => ?_)
    clear hK K
    try simp only [Act.put, puts]
    refine rd1 9 (fun K hK => ?_)
    refine step_append_lies _ (by rfl) _ _ _ (by rfl) bo 55 i0 (.agg #[.int .i64 0, .string ⟨#[]⟩, .int .i64 0, .slice none 0 0]) 4 56 Try.underlying40 hi0 hz0 hz1 hz2 rfl (by omega) _ us.length (cellsN us) (by rfl) A7.out ⟨w6.heap.size, 0, none⟩ 1 1 [.int .i64 k0, .string k1, .int .i64 k2, .slice va k3.len vc] (by rfl) (by rfl) NB.out (by simp [Value.oneCell']) (by omega) (by simp [maxLen]; omega) (by omega) Z7.out (w6.heap.size + 1) (by simp) ?_
    intro gg cap2 w8 hown hgrow hgat hglt
    have GR := (Chg.refl (fun x => u.ownBlock = some x) (w6.alloc (.cells #[.int .i64 k0, .string k1, .int .i64 k2, .slice va k3.len vc] 55))).grown hgrow (fun r e => Or.inl e)
    have nP : ¬ u.ownBlock = some P := fun e => by have := (RL.out P e).1; have := HO.out; omega
    have ng : ¬ u.ownBlock = some g := fun e => by have := (RL.out g e).1; have := HO.out; have := HG.out; omega
    have nO : ¬ u.ownBlock = some O := fun e => by have := (RL.out O e).1; have := HO.out; omega
    have T8 := GR.blkS nO HT7.out
    have fO8 := blk_free T8 3
    have zO8 := blk_cell T8 3
    simp only [gets] at zO8
    have p38 := GR.cell nP p37
    have d08 := GR.cell ng d07
    have d18 := GR.cell ng d17
    have d28 := GR.cell ng d27
    have d38 := GR.cell ng d37
    have M8 := N7.out.grown hgrow (u' := .slice (some ⟨gg, 0, none⟩) (us.length + 1) cap2) (by rcases hgat with h | h; exact Or.inl (by rw [h]; rfl); exact Or.inr (by rw [h, al_sz]; rfl))
    have G9 := Chg.set w8 O 3 (.slice (some ⟨gg, 0, none⟩) (us.length + 1) cap2)
    have T9 : Hid ((w8.setCell ⟨O, 3, none⟩ (.slice (some ⟨gg, 0, none⟩) (us.length + 1) cap2)).heap[O]? = some (.cells #[.int .i64 k, .string s, .int .i64 a, .slice (some ⟨gg, 0, none⟩) (us.length + 1) cap2] 55)) := hide (blk_set T8 3 (.slice (some ⟨gg, 0, none⟩) (us.length + 1) cap2))
    have A9 := hide (nacc_snoc (p := (k0, k1, k2, .slice va k3.len vc)) (own_chgS hown G9 (fun x hx e => by have := HO.out; omega)))
    have M9 := hide (M8.chg G9 (fun x hx _ _ e => by have := HO.out; omega))
    have Z9 := hide (Nat.le_trans Z7.out (Nat.le_trans GR.size G9.size))
    have C9 : Hid (Chg (fun x => x = O) w1 (w8.setCell ⟨O, 3, none⟩ (.slice (some ⟨gg, 0, none⟩) (us.length + 1) cap2))) := hide (by
     have h1 : Chg (fun x => x = O ∨ bo ≤ x) w1 _ := ((C7.out.mono (fun x _ h => Or.inl h)).trans (GR.mono (fun x _ h => Or.inr (RL.out x h).1))).trans (G9.mono (fun x _ h => Or.inl h))
     exact h1.mono (fun x hx h => by have := HS.out; omega))
    have p39 := G9.cell lP.out p38
    have d09 := G9.cell lg.out d08
    have d19 := G9.cell lg.out d18
    have d29 := G9.cell lg.out d28
    have d39 := G9.cell lg.out d38
    have HL9 : Hid ((us ++ [((k0, k1, k2, .slice va k3.len vc) : Nc)]).length = i + 1) := hide (by rw [List.length_append, HUL.out]; rfl)
    have F9 : Hid (CInv18 w1 (w8.setCell ⟨O, 3, none⟩ (.slice (some ⟨gg, 0, none⟩) (us.length + 1) cap2)) O bo k s a f (i + 1)) := hide ⟨_, us ++ [(k0, k1, k2, .slice va k3.len vc)], T9, A9, HL9, M9, Z9, C9⟩
    clear GR T8 M8 G9 hown hgrow hgat nP ng nO T9 A9 HL9 M9 Z9 C9
    refine hK.out _ _ ⟨p38, d08, d18, d28, d38⟩ (fun hHeld => ?_)
    clear hK K
    try simp only [Act.put, puts]
    first
     | (refine tku 10 ?_)
     | (refine tkl 10 ?_ ?_ ?_
        rotate_left
        (intro w hSw
         (try dsimp only at hSw)
         (go_simp <;> with_reducible rfl)))
    try simp only [Act.put, puts]
    refine rd1 11 (fun K hK => ?_)
    go_simp
    refine hK.out _ _ ⟨p39, d09, d19, d29, d39⟩ (fun hHeld => ?_)
    clear hK K
    try simp only [Act.put, puts]
    refine wpAnyH_done (by kernel_rfl) ?_ _
    go_wp2_with fail
    go_roundw
    case rel => exact ⟨i + 1, by omega, by go_num, F9⟩
    case measure => simp [intOf]; omega
   refine AllReadyH.cons (i := 7) (o := _) rfl (fun K hK => ?_) ?_
   rotate_left
   ·
    exact AllReadyH.nil
   go_simp
   refine (KI.out wr.drew BW.out (ti5.out.chg ((Chg.refl (fun _ => False) wr).drew) (fun _ _ h => h))).mono ?_
   rintro e w6 ⟨⟨v', rfl, t6⟩, g6'⟩
   obtain ⟨va, vc, rfl, _⟩ := id t6
   have g6 := (Chg.refl (fun _ => False) wr).drew.trans g6'
   have p36 := g6.cell (fun h => h) p3
   have d06 := g6.cell (fun h => h) d0
   have d16 := g6.cell (fun h => h) d1
   have d26 := g6.cell (fun h => h) d2
   have d36 := g6.cell (fun h => h) d3
   have zO6 := g6.cell (fun h => h) zO
   have G7 := al w6 (.cells #[.int .i64 k0, .string k1, .int .i64 k2, .slice va k3.len vc] 55)
   have p37 := G7.cell (fun h => h) p36
   have d07 := G7.cell (fun h => h) d06
   have d17 := G7.cell (fun h => h) d16
   have d27 := G7.cell (fun h => h) d26
   have d37 := G7.cell (fun h => h) d36
   have zO7 := G7.cell (fun h => h) zO6
   have HT7 := hide (G7.blk (g6.blk hT.out))
   have A7 := hide (own_chgS (own_chgS hA.out g6 (fun x hx h => h)) G7 (fun x hx h => h))
   have M7 := (hM.out.chg g6 (fun _ _ _ _ h => h)).chg G7 (fun _ _ _ _ h => h)
   have C7 := hide ((hC.out.trans g6.none).trans G7.none)
   have T7 := (t6.chg G7 (fun _ _ h => h)).up (Y := fun x => bo ≤ x ∧ x < (w6.alloc (.cells #[.int .i64 k0, .string k1, .int .i64 k2, .slice va k3.len vc] 55)).heap.size ∧ u.ownBlock ≠ some x) (fun x hx => ⟨Nat.le_trans hZ.out hx.1, Nat.lt_of_lt_of_le hx.2 G7.size, fun e => by have h1 := (RL.out x e).2; have h3 : wr.heap.size ≤ x := hx.1; omega⟩)
   have N7 := hide (SN.out _ _ M7 T7)
   have Z7 := hide (Nat.le_trans hZ.out (Nat.le_trans g6.size G7.size))
   have NB := hide (World.news_of_block (cs := #[.int .i64 k0, .string k1, .int .i64 k2, .slice va k3.len vc]) (t := 55) (fr := (0, 0)) (heap_alloc_new w6 _))
   clear t6 g6 g6' G7 M7 T7
   go_simp
   refine hK.out _ _ ⟨p36, d06, d16, d26, d36⟩ (fun hHeld => ?_)
   clear hK K
   try simp only [Act.put, puts]
   refine wpAnyH_ready (rs := [1, 8]) (by kernel_rfl) (by simp) ?_
   refine AllReadyH.cons (i := 1) (o := _) rfl (fun K hK => ?_) ?_
   ·
    go_simp
    refine hK.out _ _ ⟨p36, d06, d16, d26, d36⟩ (fun hHeld => ?_)
    clear hK K
    try simp only [Act.put, puts]
    refine rd1 8 (fun K hK => ?_)
    go_simp
    refine hK.out _ _ ⟨p37, d07, d17, d27, d37⟩ (fun hHeld => ?_)
    clear hK K
    try simp only [Act.put, puts]
    refine rd1 9 (fun K hK => ?_)
    refine step_append_lies _ (by rfl) _ _ _ (by rfl) bo 55 i0 (.agg #[.int .i64 0, .string ⟨#[]⟩, .int .i64 0, .slice none 0 0]) 4 56 Try.underlying40 hi0 hz0 hz1 hz2 rfl (by omega) _ us.length (cellsN us) (by rfl) A7.out ⟨w6.heap.size, 0, none⟩ 1 1 [.int .i64 k0, .string k1, .int .i64 k2, .slice va k3.len vc] (by rfl) (by rfl) NB.out (by simp [Value.oneCell']) (by omega) (by simp [maxLen]; omega) (by omega) Z7.out (w6.heap.size + 1) (by simp) ?_
    intro gg cap2 w8 hown hgrow hgat hglt
    have GR := (Chg.refl (fun x => u.ownBlock = some x) (w6.alloc (.cells #[.int .i64 k0, .string k1, .int .i64 k2, .slice va k3.len vc] 55))).grown hgrow (fun r e => Or.inl e)
    have nP : ¬ u.ownBlock = some P := fun e => by have := (RL.out P e).1; have := HO.out; omega
    have ng : ¬ u.ownBlock = some g := fun e => by have := (RL.out g e).1; have := HO.out; have := HG.out; omega
    have nO : ¬ u.ownBlock = some O := fun e => by have := (RL.out O e).1; have := HO.out; omega
    have T8 := GR.blkS nO HT7.out
    have fO8 := blk_free T8 3
    have zO8 := blk_cell T8 3
    simp only [gets] at zO8
    have p38 := GR.cell nP p37
    have d08 := GR.cell ng d07
    have d18 := GR.cell ng d17
    have d28 := GR.cell ng d27
    have d38 := GR.cell ng d37
    have M8 := N7.out.grown hgrow (u' := .slice (some ⟨gg, 0, none⟩) (us.length + 1) cap2) (by rcases hgat with h | h; exact Or.inl (by rw [h]; rfl); exact Or.inr (by rw [h, al_sz]; rfl))
    have G9 := Chg.set w8 O 3 (.slice (some ⟨gg, 0, none⟩) (us.length + 1) cap2)
    have T9 : Hid ((w8.setCell ⟨O, 3, none⟩ (.slice (some ⟨gg, 0, none⟩) (us.length + 1) cap2)).heap[O]? = some (.cells #[.int .i64 k, .string s, .int .i64 a, .slice (some ⟨gg, 0, none⟩) (us.length + 1) cap2] 55)) := hide (blk_set T8 3 (.slice (some ⟨gg, 0, none⟩) (us.length + 1) cap2))
    have A9 := hide (nacc_snoc (p := (k0, k1, k2, .slice va k3.len vc)) (own_chgS hown G9 (fun x hx e => by have := HO.out; omega)))
    have M9 := hide (M8.chg G9 (fun x hx _ _ e => by have := HO.out; omega))
    have Z9 := hide (Nat.le_trans Z7.out (Nat.le_trans GR.size G9.size))
    have C9 : Hid (Chg (fun x => x = O) w1 (w8.setCell ⟨O, 3, none⟩ (.slice (some ⟨gg, 0, none⟩) (us.length + 1) cap2))) := hide (by
     have h1 : Chg (fun x => x = O ∨ bo ≤ x) w1 _ := ((C7.out.mono (fun x _ h => Or.inl h)).trans (GR.mono (fun x _ h => Or.inr (RL.out x h).1))).trans (G9.mono (fun x _ h => Or.inl h))
     exact h1.mono (fun x hx h => by have := HS.out; omega))
    have p39 := G9.cell lP.out p38
    have d09 := G9.cell lg.out d08
    have d19 := G9.cell lg.out d18
    have d29 := G9.cell lg.out d28
    have d39 := G9.cell lg.out d38
    have HL9 : Hid ((us ++ [((k0, k1, k2, .slice va k3.len vc) : Nc)]).length = i + 1) := hide (by rw [List.length_append, HUL.out]; rfl)
    have F9 : Hid (CInv18 w1 (w8.setCell ⟨O, 3, none⟩ (.slice (some ⟨gg, 0, none⟩) (us.length + 1) cap2)) O bo k s a f (i + 1)) := hide ⟨_, us ++ [(k0, k1, k2, .slice va k3.len vc)], T9, A9, HL9, M9, Z9, C9⟩
    clear GR T8 M8 G9 hown hgrow hgat nP ng nO T9 A9 HL9 M9 Z9 C9
    refine hK.out _ _ ⟨p38, d08, d18, d28, d38⟩ (fun hHeld => ?_)
    clear hK K
    try simp only [Act.put, puts]
    first
     | (refine tku 10 ?_)
     | (refine tkl 10 ?_ ?_ ?_
        rotate_left
        (intro w hSw
         (try dsimp only at hSw)
         (go_simp <;> with_reducible rfl)))
    try simp only [Act.put, puts]
    refine rd1 11 (fun K hK => ?_)
    go_simp
    refine hK.out _ _ ⟨p39, d09, d19, d29, d39⟩ (fun hHeld => ?_)
    clear hK K
    try simp only [Act.put, puts]
    refine wpAnyH_done (by kernel_rfl) ?_ _
    go_wp2_with fail
    go_roundw
    case rel => exact ⟨i + 1, by omega, by go_num, F9⟩
    case measure => simp [intOf]; omega
   refine AllReadyH.cons (i := 8) (o := _) rfl (fun K hK => ?_) ?_
   rotate_left
   ·
    exact AllReadyH.nil
   go_simp
   refine hK.out _ _ ⟨p37, d07, d17, d27, d37⟩ (fun hHeld => ?_)
   clear hK K
   try simp only [Act.put, puts]
   refine rd1 1 (fun K hK => ?_)
   go_simp
   refine hK.out _ _ ⟨p37, d07, d17, d27, d37⟩ (fun hHeld => ?_)
   clear hK K
   try simp only [Act.put, puts]
   refine rd1 9 (fun K hK => ?_)
   refine step_append_lies _ (by rfl) _ _ _ (by rfl) bo 55 i0 (.agg #[.int .i64 0, .string ⟨#[]⟩, .int .i64 0, .slice none 0 0]) 4 56 Try.underlying40 hi0 hz0 hz1 hz2 rfl (by omega) _ us.length (cellsN us) (by rfl) A7.out ⟨w6.heap.size, 0, none⟩ 1 1 [.int .i64 k0, .string k1, .int .i64 k2, .slice va k3.len vc] (by rfl) (by rfl) NB.out (by simp [Value.oneCell']) (by omega) (by simp [maxLen]; omega) (by omega) Z7.out (w6.heap.size + 1) (by simp) ?_
   intro gg cap2 w8 hown hgrow hgat hglt
   have GR := (Chg.refl (fun x => u.ownBlock = some x) (w6.alloc (.cells #[.int .i64 k0, .string k1, .int .i64 k2, .slice va k3.len vc] 55))).grown hgrow (fun r e => Or.inl e)
   have nP : ¬ u.ownBlock = some P := fun e => by have := (RL.out P e).1; have := HO.out; omega
   have ng : ¬ u.ownBlock = some g := fun e => by have := (RL.out g e).1; have := HO.out; have := HG.out; omega
   have nO : ¬ u.ownBlock = some O := fun e => by have := (RL.out O e).1; have := HO.out; omega
   have T8 := GR.blkS nO HT7.out
   have fO8 := blk_free T8 3
   have zO8 := blk_cell T8 3
   simp only [gets] at zO8
   have p38 := GR.cell nP p37
   have d08 := GR.cell ng d07
   have d18 := GR.cell ng d17
   have d28 := GR.cell ng d27
   have d38 := GR.cell ng d37
   have M8 := N7.out.grown hgrow (u' := .slice (some ⟨gg, 0, none⟩) (us.length + 1) cap2) (by rcases hgat with h | h; exact Or.inl (by rw [h]; rfl); exact Or.inr (by rw [h, al_sz]; rfl))
   have G9 := Chg.set w8 O 3 (.slice (some ⟨gg, 0, none⟩) (us.length + 1) cap2)
   have T9 : Hid ((w8.setCell ⟨O, 3, none⟩ (.slice (some ⟨gg, 0, none⟩) (us.length + 1) cap2)).heap[O]? = some (.cells #[.int .i64 k, .string s, .int .i64 a, .slice (some ⟨gg, 0, none⟩) (us.length + 1) cap2] 55)) := hide (blk_set T8 3 (.slice (some ⟨gg, 0, none⟩) (us.length + 1) cap2))
   have A9 := hide (nacc_snoc (p := (k0, k1, k2, .slice va k3.len vc)) (own_chgS hown G9 (fun x hx e => by have := HO.out; omega)))
   have M9 := hide (M8.chg G9 (fun x hx _ _ e => by have := HO.out; omega))
   have Z9 := hide (Nat.le_trans Z7.out (Nat.le_trans GR.size G9.size))
   have C9 : Hid (Chg (fun x => x = O) w1 (w8.setCell ⟨O, 3, none⟩ (.slice (some ⟨gg, 0, none⟩) (us.length + 1) cap2))) := hide (by
    have h1 : Chg (fun x => x = O ∨ bo ≤ x) w1 _ := ((C7.out.mono (fun x _ h => Or.inl h)).trans (GR.mono (fun x _ h => Or.inr (RL.out x h).1))).trans (G9.mono (fun x _ h => Or.inl h))
    exact h1.mono (fun x hx h => by have := HS.out; omega))
   have p39 := G9.cell lP.out p38
   have d09 := G9.cell lg.out d08
   have d19 := G9.cell lg.out d18
   have d29 := G9.cell lg.out d28
   have d39 := G9.cell lg.out d38
   have HL9 : Hid ((us ++ [((k0, k1, k2, .slice va k3.len vc) : Nc)]).length = i + 1) := hide (by rw [List.length_append, HUL.out]; rfl)
   have F9 : Hid (CInv18 w1 (w8.setCell ⟨O, 3, none⟩ (.slice (some ⟨gg, 0, none⟩) (us.length + 1) cap2)) O bo k s a f (i + 1)) := hide ⟨_, us ++ [(k0, k1, k2, .slice va k3.len vc)], T9, A9, HL9, M9, Z9, C9⟩
   clear GR T8 M8 G9 hown hgrow hgat nP ng nO T9 A9 HL9 M9 Z9 C9
   refine hK.out _ _ ⟨p38, d08, d18, d28, d38⟩ (fun hHeld => ?_)
   clear hK K
   try simp only [Act.put, puts]
   first
    | (refine tku 10 ?_)
    | (refine tkl 10 ?_ ?_ ?_
       rotate_left
       (intro w hSw
        (try dsimp only at hSw)
        (go_simp <;> with_reducible rfl)))
   try simp only [Act.put, puts]
   refine rd1 11 (fun K hK => ?_)
   go_simp
   refine hK.out _ _ ⟨p39, d09, d19, d29, d39⟩ (fun hHeld => ?_)
   clear hK K
   try simp only [Act.put, puts]
   refine wpAnyH_done (by kernel_rfl) ?_ _
   go_wp2_with fail
   go_roundw
   case rel => exact ⟨i + 1, by omega, by go_num, F9⟩
   case measure => simp [intOf]; omega
  ·
   have hif : i = f.len := by omega
   have BRr := hC.out.blkS (by have := HO.out; omega) BR.out
   have z0 := blk_cell hT.out 0
   have z1 := blk_cell hT.out 1
   have z2 := blk_cell hT.out 2
   have z3 := blk_cell hT.out 3
   have cR0 := blk_cell BRr 0
   have cR1 := blk_cell BRr 1
   have cR2 := blk_cell BRr 2
   have cR3 := blk_cell BRr 3
   have fR0 := blk_free BRr 0
   have fR1 := blk_free BRr 1
   have fR2 := blk_free BRr 2
   have fR3 := blk_free BRr 3
   simp only [gets] at z0 z1 z2 z3 cR0 cR1 cR2 cR3
   obtain ⟨ua, uc, hue⟩ : ∃ ua uc, u = .slice ua us.length uc := by
    rcases hA.out.2 with ⟨h1, h2⟩ | ⟨g, cap2, cur, h1, _⟩
    ·
     exact ⟨_, _, by rw [h1, h2]⟩
    ·
     exact ⟨_, _, h1⟩
   have NS : Hid (((((wr.setCell ⟨R, 0, none⟩ (.int .i64 k)).setCell ⟨R, 1, none⟩ (.string s)).setCell ⟨R, 2, none⟩ (.int .i64 a)).setCell ⟨R, 3, none⟩ u).heap[R]? = some (.cells #[.int .i64 k, .string s, .int .i64 a, u] 55) ∧ Chg (fun x => x = R) wr ((((wr.setCell ⟨R, 0, none⟩ (.int .i64 k)).setCell ⟨R, 1, none⟩ (.string s)).setCell ⟨R, 2, none⟩ (.int .i64 a)).setCell ⟨R, 3, none⟩ u)) := hide ⟨blk_set (blk_set (blk_set (blk_set BRr 0 (.int .i64 k)) 1 (.string s)) 2 (.int .i64 a)) 3 u, (((Chg.set wr R 0 (.int .i64 k)).trans (Chg.set _ R 1 (.string s))).trans (Chg.set _ R 2 (.int .i64 a))).trans (Chg.set _ R 3 u)⟩
   have AF := own_chgS hA.out NS.out.2 (fun x hx e => by have := HO.out; omega)
   have MF := hM.out.chg NS.out.2 (fun x hx _ _ e => by have := HO.out; omega)
   have CF : Chg (fun _ => False) w ((((wr.setCell ⟨R, 0, none⟩ (.int .i64 k)).setCell ⟨R, 1, none⟩ (.string s)).setCell ⟨R, 2, none⟩ (.int .i64 a)).setCell ⟨R, 3, none⟩ u) := by
    have h1 : Chg (fun x => x = O ∨ x = R) w _ := (GG.out.none.trans (hC.out.mono (fun x _ h => Or.inl h))).trans (NS.out.2.mono (fun x _ h => Or.inr h))
    exact h1.mono (fun x hx h => by have := HO.out; omega)
   have F : Hid (Ts ((((wr.setCell ⟨R, 0, none⟩ (.int .i64 k)).setCell ⟨R, 1, none⟩ (.string s)).setCell ⟨R, 2, none⟩ (.int .i64 a)).setCell ⟨R, 3, none⟩ u) (fun x => w.heap.size ≤ x ∧ x < ((((wr.setCell ⟨R, 0, none⟩ (.int .i64 k)).setCell ⟨R, 1, none⟩ (.string s)).setCell ⟨R, 2, none⟩ (.int .i64 a)).setCell ⟨R, 3, none⟩ u).heap.size) u f ∧ Chg (fun _ => False) w ((((wr.setCell ⟨R, 0, none⟩ (.int .i64 k)).setCell ⟨R, 1, none⟩ (.string s)).setCell ⟨R, 2, none⟩ (.int .i64 a)).setCell ⟨R, 3, none⟩ u)) := hide ⟨nacc_ts AF (fun r e => by have h1 := World.ownsRow.lt AF r e; have := HO.out; exact ⟨by omega, h1.2⟩) (by rw [hL.out, htl, hif]) (fun j h1 h2 => (MF.2 j h1 h2).up (fun x hx => ⟨by have := HO.out; have := hx.1; omega, hx.2.1⟩)), CF⟩
   subst hue
   subst hif
   clear AF MF CF hT hA hL hM hZ hC BRr
   go_wp2_with fail
   generalize ((((wr.setCell ⟨R, 0, none⟩ (.int .i64 k)).setCell ⟨R, 1, none⟩ (.string s)).setCell ⟨R, 2, none⟩ (.int .i64 a)).setCell ⟨R, 3, none⟩ (.slice ua us.length uc)) = wF at *
   have r0 := blk_cell NS.out.1 0
   have r1 := blk_cell NS.out.1 1
   have r2 := blk_cell NS.out.1 2
   have r3 := blk_cell NS.out.1 3
   refine bodyPost_ret (v := .agg #[.int .i64 k, .string s, .int .i64 a, .slice ua us.length uc]) (by simp [results, Try.results18, go_sem, r0, r1, r2, r3]) rfl ?_
   exact ⟨⟨_, rfl, F.out.1⟩, F.out.2⟩

theorem pof_all (n : Nat) : ∀ (f : Ns), f.size ≤ n → f.len ≤ 1000000 → Slim f → ∀ (k : Int) (s : ByteArray) (a : Int) (v : Value) (X : Nat → Prop) (w : World), (∀ x, X x → x < w.heap.size) → Ts w X v f →
  Calls Try.prog 18 #[.agg #[.int .i64 k, .string s, .int .i64 a, v]] w fun e w' => (∃ v', e = .returned (.agg #[.int .i64 k, .string s, .int .i64 a, v']) ∧ Ts w' (fun x => w.heap.size ≤ x ∧ x < w'.heap.size) v' f) ∧ Chg (fun _ => False) w w' := by
 induction n with
 | zero => exact fun f hf => pof_step 0 (fun g hg => absurd hg (Nat.not_lt_zero _)) f hf
 | succ n ih => exact fun f hf => pof_step (n + 1) (fun g hg => ih g (by omega)) f hf

theorem pof_any (f : Ns) (hfl : f.len ≤ 1000000) (hs : Slim f) (k : Int) (s : ByteArray) (a : Int) (v : Value) (X : Nat → Prop) (w : World) (hX : ∀ x, X x → x < w.heap.size) (hv : Ts w X v f) :
  Calls Try.prog 18 #[.agg #[.int .i64 k, .string s, .int .i64 a, v]] w fun e w' => (∃ v', e = .returned (.agg #[.int .i64 k, .string s, .int .i64 a, v']) ∧ Ts w' (fun x => w.heap.size ≤ x ∧ x < w'.heap.size) v' f) ∧ Chg (fun _ => False) w w' :=
 pof_all f.size f (Nat.le_refl _) hfl hs k s a v X w hX hv
end Go.Proofs.Ytboeeaekhijboaa
