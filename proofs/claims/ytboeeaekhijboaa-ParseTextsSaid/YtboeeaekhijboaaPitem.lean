/- The program's parser: item. -/
import Derived.Test.YtboeeaekhijboaaShort
import Derived.Test.YtboeeaekhijboaaPterms
import Derived.Deep.CutBlock
namespace Go.Proofs.Ytboeeaekhijboaa
open Go.RowKit
set_option linter.unusedVariables false
set_option linter.unusedSimpArgs false

/-- The value is the item x. -/
def IV (w : World) (X : Nat → Prop) (v : Value) (x : It) : Prop :=
 ∃ u1 u2, v = .agg #[.int .i64 x.1, u1, u2, .int .i64 x.2.2.2.1, .int .i64 x.2.2.2.2] ∧ Sw w X u1 x.2.1 ∧ Ts w X u2 x.2.2.1
/-- an item was read, or a fault lies there -/
def IOut (w : World) (rb pb : Nat) (v : Value) (ts : List Tok) (s : ByteArray) (o : Nat) (r : Rz It) (e : Ending) (w' : World) : Prop :=
 (∃ u x, e = .returned u ∧ IV w' (fun x => w.heap.size ≤ x ∧ x < w'.heap.size) u x ∧ ∀ q, r = .ok q → x = q.1) ∧ PS w' rb pb v ts s o r.st ∧ Chg (Pw rb pb) w w'
/-- what stands behind the word that begins an item has been read -/
def IMid (w wr : World) (rb pb : Nat) (v : Value) (ts : List Tok) (s : ByteArray) (A X : Nat) (kd at0 : Int) (r : Rz (List ByteArray × Ns × Int)) : Prop :=
 ∃ (l : List ByteArray) (n : Ns) (num : Int) (a1 a2 : Option Addr) (c1 c2 : Nat), Hid (PS wr rb pb v ts s 0 r.st) ∧ Hid (wr.heap[A]? = some (.cells #[.int .i64 0, .slice none 0 0, .slice none 0 0, .int .i64 0, .int .i64 0] 46)) ∧ Hid (wr.heap[X]? = some (.cells #[.int .i64 kd, .slice a1 l.length c1, .slice a2 n.len c2, .int .i64 num, .int .i64 at0] 46)) ∧
  Hid (Sw wr (fun x => w.heap.size ≤ x ∧ x < wr.heap.size ∧ x ≠ A ∧ x ≠ X) (.slice a1 l.length c1) l) ∧ Hid (Ts wr (fun x => w.heap.size ≤ x ∧ x < wr.heap.size ∧ x ≠ A ∧ x ≠ X) (.slice a2 n.len c2) n) ∧ Hid (Chg (Pw rb pb) w wr) ∧
  Hid (∀ q, r = .ok q → (l, n, num) = q.1)
theorem kind_bd (x : ByteArray) : 0 ≤ kindOf x ∧ kindOf x ≤ 12 := by
 have h := idx_bd kinds x
 have h2 : kinds.length = 12 := rfl
 unfold kindOf
 omega
theorem ts_one {w : World} {X : Nat → Prop} {g T : Nat} {n : Nd} {a : Value} (hg : X g) (h : w.heap[g]? = some (.cells #[.int .i64 n.kind, .string n.word, .int .i64 n.at, a] T)) (ha : Ts w X a n.kids) :
  Ts w X (.slice (some ⟨g, 0, none⟩) 1 1) (oneN n) := by
 refine ⟨_, _, rfl, Or.inr ⟨g, 0, rfl, hg, lies_cons.2 ⟨blk_cell h 0, blk_cell h 1, blk_cell h 2, ⟨a, blk_cell h 3, ha⟩, trivial⟩⟩⟩
theorem rz_st_bind {α β : Type} {r : Rz α} {f : Nat → Rz β} : r.st.bind f = r.bind fun _ k => f k := by cases r <;> rfl
/-- two readings, one behind the other -/
theorem bind2 {α β γ : Type} {r1 : Rz α} {f : Nat → Rz β} {h : α → β → γ} {R : Rz γ} (hR : R = r1.bind fun a k1 => (f k1).bind fun b k2 => .ok (h a b, k2)) {a : α} {b : β} (ha : ∀ q, r1 = .ok q → a = q.1) (hb : ∀ q, r1.st.bind f = .ok q → b = q.1) :
  (r1.st.bind f).st = R.st ∧ ∀ q, R = .ok q → h a b = q.1 := by
 subst hR
 cases r1 with
 | error x => exact ⟨rfl, fun q hq => by cases hq⟩
 | ok p =>
   have ea := ha p rfl
   simp only [Rz.st, Rz.bind, St.bind] at hb ⊢
   cases e : f p.2 with
   | error x => exact ⟨rfl, fun q hq => by cases hq⟩
   | ok p2 =>
     have eb := hb p2 e
     exact ⟨rfl, fun q hq => by cases hq; rw [ea, eb]⟩
theorem bind1 {α γ : Type} {r1 : Rz α} {h : α → γ} {R : Rz γ} (hR : R = r1.bind fun a k1 => .ok (h a, k1)) {a : α} (ha : ∀ q, r1 = .ok q → a = q.1) : r1.st = R.st ∧ ∀ q, R = .ok q → h a = q.1 := by
 subst hR
 cases r1 with
 | error x => exact ⟨rfl, fun q hq => by cases hq⟩
 | ok p => exact ⟨rfl, fun q hq => by cases hq; rw [ha p rfl]⟩
theorem tok_ok {r : Rz Tok} : ∀ q, r = .ok q → tokOf r = q.1 := fun q h => by rw [h]; rfl

set_option maxRecDepth 100000 in
set_option maxHeartbeats 32000000 in
theorem item_any {rb pb : Nat} {v : Value} {ts : List Tok} {s : ByteArray} {k : Nat} {w : World} (h : PS w rb pb v ts s 0 (.ok k)) :
  Calls Try.prog 34 #[.pointer (some ⟨pb, 0, none⟩)] w (IOut w rb pb v ts s 0 (itemS ts s k)) := by
 have G0 := hide (al w (.cells #[.int .i64 0, .slice none 0 0, .slice none 0 0, .int .i64 0, .int .i64 0] 46))
 have B0 := hide (blk_new w (.cells #[.int .i64 0, .slice none 0 0, .slice none 0 0, .int .i64 0, .int .i64 0] 46))
 have H0 := hide (h.chg G0.out (fun _ _ h => h))
 have hl := h.lt
 have PK := hide (fun w' (h : PS w' rb pb v ts s 0 (.ok k)) => peek_some rb rb v ts s k 0 h.le (by have := h.env.len; omega) (by have := h.env.size; omega) w' h.rd h.tks)
 have NX := hide (fun w' (h : PS w' rb pb v ts s 0 (.ok k)) => next_some rb rb v ts s k h.le (by have := h.env.len; omega) (by have := h.env.size; omega) w' h.rd h.tks)
 obtain ⟨A, hA⟩ : ∃ A, w.heap.size = A := ⟨_, rfl⟩
 have HL : Hid (rb < pb ∧ pb < A ∧ w.heap.size = A) := hide ⟨hl.1, by omega, hA⟩
 rw [hA] at B0
 obtain ⟨t, ht⟩ : ∃ t, tokAt ts s k 0 = t := ⟨_, rfl⟩
 have HT := hide ht
 rw [ht] at PK NX
 clear h hl hA ht
 obtain ⟨t0, t1, t2⟩ := t
 have etv : tokV (t0, t1, t2) = .agg #[.int .i64 t0, .string t1, .int .i64 (t2 : Int)] := rfl
 rw [etv] at PK NX
 clear etv
 obtain ⟨c0, _, _, _, _, _⟩ := H0.out.cells
 go_enter Try.func34, Try.ntmps34
 go_wp2_with fail
 rw [HL.out.2.2]
 generalize w.alloc (.cells #[.int .i64 0, .slice none 0 0, .slice none 0 0, .int .i64 0, .int .i64 0] 46) = w1 at *
 refine (PK.out w1 H0.out).mono ?_
 rintro e w2 ⟨rfl, g2⟩
 have GT := al w2 (.cells #[.int .i64 t0, .string t1, .int .i64 (t2 : Int)] 75)
 have T3 := hide (blk_new w2 (.cells #[.int .i64 t0, .string t1, .int .i64 (t2 : Int)] 75))
 have H3 := hide ((H0.out.chg g2 (fun _ _ h => h)).chg GT (fun _ _ h => h))
 have B3 := hide (GT.blk (g2.blk B0.out))
 have G3 := hide ((G0.out.trans g2).trans GT)
 obtain ⟨D, hD⟩ : ∃ D, w2.heap.size = D := ⟨_, rfl⟩
 have DL : Hid (A < D ∧ rb < pb ∧ pb < A ∧ w.heap.size = A) := hide ⟨by have h1 := olt (g2.blk B0.out); omega, HL.out⟩
 rw [hD] at T3
 clear g2 GT PK
 go_wp2_with fail
 clear hD
 generalize w2.alloc (.cells #[.int .i64 t0, .string t1, .int .i64 (t2 : Int)] 75) = w3 at *
 have q0 := blk_cell T3.out 0
 have q1 := blk_cell T3.out 1
 have q2 := blk_cell T3.out 2
 simp only [gets] at q0 q1 q2
 obtain ⟨kd, hkd⟩ : ∃ kd, kindOf t1 = kd := ⟨_, rfl⟩
 have KB := hide (kind_bd t1)
 have BG := hide (fun w => begins_any t1 w)
 rw [hkd] at KB BG
 have HK := hide hkd
 clear hkd c0
 go_upto_region 2 with fail
 go_cut [4] (fun s4 wx => ∃ X : Nat, s4 = .pointer (some ⟨X, 0, none⟩) ∧ Hid (wx.heap[X]? = some (.cells #[.int .i64 kd, .slice none 0 0, .slice none 0 0, .int .i64 0, .int .i64 (t2 : Int)] 46)) ∧ Hid (Chg (fun _ => False) w3 wx) ∧ Hid (w3.heap.size ≤ X))
 case first =>
  refine wp_region_held_drew (S := (fun w' => w'.cell? ⟨D, 0, none⟩ = some (.int .i64 t0) ∧ w'.cell? ⟨D, 1, none⟩ = some (.string t1) ∧ w'.cell? ⟨D, 2, none⟩ = some (.int .i64 (t2 : Int)))) (by kernel_rfl) (by go_keep) (fun hHeld => ?_)
  first
   | (refine tku 0 ?_)
   | (refine tkl 0 ?_ ?_ ?_
      rotate_left
      (intro w hSw
       (try dsimp only at hSw)
       (go_simp <;> with_reducible rfl)))
  try simp only [Act.put, puts]
  first
   | (refine tku 1 ?_)
   | (refine tkl 1 ?_ ?_ ?_
      rotate_left
      (intro w hSw
       (try dsimp only at hSw)
       (go_simp <;> with_reducible rfl)))
  try simp only [Act.put, puts]
  first
   | (refine tku 3 ?_)
   | (refine tkl 3 ?_ ?_ ?_
      rotate_left
      (intro w hSw
       (try dsimp only at hSw)
       (go_simp <;> with_reducible rfl)))
  try simp only [Act.put, puts]
  first
   | (refine tku 4 ?_)
   | (refine tkl 4 ?_ ?_ ?_
      rotate_left
      (intro w hSw
       (try dsimp only at hSw)
       (go_simp <;> with_reducible rfl)))
  try simp only [Act.put, puts]
  refine wpAnyH_ready (rs := [2, 6]) (by kernel_rfl) (by simp) ?_
  refine AllReadyH.cons (i := 2) (o := _) rfl (fun K hK => ?_) ?_
  ·
   go_simp
   refine (BG.out w3.drew).mono ?_
   rintro e w5 ⟨rfl, g5⟩
   have y0 := g5.cell (fun h => h) q0
   have y1 := g5.cell (fun h => h) q1
   have y2 := g5.cell (fun h => h) q2
   have GX := al w5 (.cells #[.int .i64 0, .slice none 0 0, .slice none 0 0, .int .i64 0, .int .i64 0] 46)
   have BX := blk_new w5 (.cells #[.int .i64 0, .slice none 0 0, .slice none 0 0, .int .i64 0, .int .i64 0] 46)
   have GA : Hid (Chg (fun _ => False) w3 (w5.alloc (.cells #[.int .i64 0, .slice none 0 0, .slice none 0 0, .int .i64 0, .int .i64 0] 46))) := hide (((Chg.refl (fun _ => False) w3).drew.trans g5).trans GX)
   have LF : Hid (w3.heap.size ≤ w5.heap.size) := hide g5.size
   have z0 := GX.cell (fun h => h) y0
   have z1 := GX.cell (fun h => h) y1
   have z2 := GX.cell (fun h => h) y2
   clear GX g5
   go_simp
   refine hK.out _ _ ⟨y0, y1, y2⟩ (fun hHeld => ?_)
   clear hK K
   try simp only [Act.put, puts]
   first
    | (refine tku 5 ?_)
    | (refine tkl 5 ?_ ?_ ?_
       rotate_left
       (intro w hSw
        (try dsimp only at hSw)
        (go_simp <;> with_reducible rfl)))
   try simp only [Act.put, puts]
   refine rd1 6 (fun K hK => ?_)
   go_simp
   refine hK.out _ _ ⟨z0, z1, z2⟩ (fun hHeld => ?_)
   clear hK K
   try simp only [Act.put, puts]
   obtain ⟨X, hX⟩ : ∃ X, w5.heap.size = X := ⟨_, rfl⟩
   rw [hX] at BX LF ⊢
   clear hX
   generalize w5.alloc (.cells #[.int .i64 0, .slice none 0 0, .slice none 0 0, .int .i64 0, .int .i64 0] 46) = w6 at *
   have DX : Hid (D < X ∧ w3.heap.size ≤ X) := hide ⟨by have := olt T3.out; have := LF.out; omega, LF.out⟩
   refine rd1 7 (fun K hK => ?_)
   have b0 := blk_cell BX 0
   have f0 := blk_free BX 0
   have b1 := blk_cell BX 1
   have f1 := blk_free BX 1
   have b2 := blk_cell BX 2
   have f2 := blk_free BX 2
   have b3 := blk_cell BX 3
   have f3 := blk_free BX 3
   have b4 := blk_cell BX 4
   have f4 := blk_free BX 4
   simp only [gets] at b0 b1 b2 b3 b4
   have XF : Hid ((((((w6.setCell ⟨X, 0, none⟩ (.int .i64 kd)).setCell ⟨X, 1, none⟩ (.slice none 0 0)).setCell ⟨X, 2, none⟩ (.slice none 0 0)).setCell ⟨X, 3, none⟩ (.int .i64 0)).setCell ⟨X, 4, none⟩ (.int .i64 (t2 : Int))).heap[X]? = some (.cells #[.int .i64 kd, .slice none 0 0, .slice none 0 0, .int .i64 0, .int .i64 (t2 : Int)] 46)) := hide (blk_set (blk_set (blk_set (blk_set (blk_set BX 0 (.int .i64 kd)) 1 (.slice none 0 0)) 2 (.slice none 0 0)) 3 (.int .i64 0)) 4 (.int .i64 (t2 : Int)))
   have CX : Chg (fun x => x = X) w6 (((((w6.setCell ⟨X, 0, none⟩ (.int .i64 kd)).setCell ⟨X, 1, none⟩ (.slice none 0 0)).setCell ⟨X, 2, none⟩ (.slice none 0 0)).setCell ⟨X, 3, none⟩ (.int .i64 0)).setCell ⟨X, 4, none⟩ (.int .i64 (t2 : Int))) := (((((Chg.set w6 X 0 (.int .i64 kd)).trans (Chg.set (w6.setCell ⟨X, 0, none⟩ (.int .i64 kd)) X 1 (.slice none 0 0))).trans (Chg.set ((w6.setCell ⟨X, 0, none⟩ (.int .i64 kd)).setCell ⟨X, 1, none⟩ (.slice none 0 0)) X 2 (.slice none 0 0))).trans (Chg.set (((w6.setCell ⟨X, 0, none⟩ (.int .i64 kd)).setCell ⟨X, 1, none⟩ (.slice none 0 0)).setCell ⟨X, 2, none⟩ (.slice none 0 0)) X 3 (.int .i64 0))).trans (Chg.set ((((w6.setCell ⟨X, 0, none⟩ (.int .i64 kd)).setCell ⟨X, 1, none⟩ (.slice none 0 0)).setCell ⟨X, 2, none⟩ (.slice none 0 0)).setCell ⟨X, 3, none⟩ (.int .i64 0)) X 4 (.int .i64 (t2 : Int))))
   have u0 := CX.cell (by have := DX.out; omega) z0
   have u1 := CX.cell (by have := DX.out; omega) z1
   have u2 := CX.cell (by have := DX.out; omega) z2
   have GF : Hid (Chg (fun _ => False) w3 (((((w6.setCell ⟨X, 0, none⟩ (.int .i64 kd)).setCell ⟨X, 1, none⟩ (.slice none 0 0)).setCell ⟨X, 2, none⟩ (.slice none 0 0)).setCell ⟨X, 3, none⟩ (.int .i64 0)).setCell ⟨X, 4, none⟩ (.int .i64 (t2 : Int)))) := hide (((GA.out.mono (T := fun x => x = X) (fun x _ h => h.elim)).trans CX).mono (fun x hx e => by have := DX.out; omega))
   clear CX
   go_simp
   refine hK.out _ _ ⟨u0, u1, u2⟩ (fun hHeld => ?_)
   clear hK K
   try simp only [Act.put, puts]
   refine wpAnyH_done (by kernel_rfl) ?_ _
   go_wp2_with fail
   go_meet
   exact ⟨X, rfl, XF, GF, hide DX.out.2⟩
  refine AllReadyH.cons (i := 6) (o := _) rfl (fun K hK => ?_) ?_
  rotate_left
  ·
   exact AllReadyH.nil
  have GX := al w3.drew (.cells #[.int .i64 0, .slice none 0 0, .slice none 0 0, .int .i64 0, .int .i64 0] 46)
  have BX := blk_new w3.drew (.cells #[.int .i64 0, .slice none 0 0, .slice none 0 0, .int .i64 0, .int .i64 0] 46)
  have y0 := GX.cell (fun h => h) (show w3.drew.cell? ⟨D, 0, none⟩ = some (.int .i64 t0) from q0)
  have y1 := GX.cell (fun h => h) (show w3.drew.cell? ⟨D, 1, none⟩ = some (.string t1) from q1)
  have y2 := GX.cell (fun h => h) (show w3.drew.cell? ⟨D, 2, none⟩ = some (.int .i64 (t2 : Int)) from q2)
  have GA0 : Hid (Chg (fun _ => False) w3 (w3.drew.alloc (.cells #[.int .i64 0, .slice none 0 0, .slice none 0 0, .int .i64 0, .int .i64 0] 46))) := hide ((Chg.refl (fun _ => False) w3).drew.trans GX)
  clear GX
  go_simp
  refine hK.out _ _ ⟨y0, y1, y2⟩ (fun hHeld => ?_)
  clear hK K
  try simp only [Act.put, puts]
  obtain ⟨X, hX⟩ : ∃ X, w3.heap.size = X := ⟨_, rfl⟩
  have BX : (w3.drew.alloc (.cells #[.int .i64 0, .slice none 0 0, .slice none 0 0, .int .i64 0, .int .i64 0] 46)).heap[X]? = some (.cells #[.int .i64 0, .slice none 0 0, .slice none 0 0, .int .i64 0, .int .i64 0] 46) := by rw [← hX]; exact BX
  have LF : Hid (w3.heap.size ≤ X) := hide (Nat.le_of_eq hX)
  try rw [hX]
  clear hX
  refine rd1 2 (fun K hK => ?_)
  go_simp
  refine (BG.out _).mono ?_
  rintro e w6 ⟨rfl, g6⟩
  have z0 := g6.cell (fun h => h) y0
  have z1 := g6.cell (fun h => h) y1
  have z2 := g6.cell (fun h => h) y2
  have BX6 := g6.blk BX
  have GA := hide (GA0.out.trans g6)
  have DX : Hid (D < X ∧ w3.heap.size ≤ X) := hide ⟨by have := olt T3.out; have := LF.out; omega, LF.out⟩
  clear g6
  go_simp
  refine hK.out _ _ ⟨z0, z1, z2⟩ (fun hHeld => ?_)
  clear hK K
  try simp only [Act.put, puts]
  first
   | (refine tku 5 ?_)
   | (refine tkl 5 ?_ ?_ ?_
      rotate_left
      (intro w hSw
       (try dsimp only at hSw)
       (go_simp <;> with_reducible rfl)))
  try simp only [Act.put, puts]
  refine rd1 7 (fun K hK => ?_)
  have b0 := blk_cell BX6 0
  have f0 := blk_free BX6 0
  have b1 := blk_cell BX6 1
  have f1 := blk_free BX6 1
  have b2 := blk_cell BX6 2
  have f2 := blk_free BX6 2
  have b3 := blk_cell BX6 3
  have f3 := blk_free BX6 3
  have b4 := blk_cell BX6 4
  have f4 := blk_free BX6 4
  simp only [gets] at b0 b1 b2 b3 b4
  have XF : Hid ((((((w6.setCell ⟨X, 0, none⟩ (.int .i64 kd)).setCell ⟨X, 1, none⟩ (.slice none 0 0)).setCell ⟨X, 2, none⟩ (.slice none 0 0)).setCell ⟨X, 3, none⟩ (.int .i64 0)).setCell ⟨X, 4, none⟩ (.int .i64 (t2 : Int))).heap[X]? = some (.cells #[.int .i64 kd, .slice none 0 0, .slice none 0 0, .int .i64 0, .int .i64 (t2 : Int)] 46)) := hide (blk_set (blk_set (blk_set (blk_set (blk_set BX6 0 (.int .i64 kd)) 1 (.slice none 0 0)) 2 (.slice none 0 0)) 3 (.int .i64 0)) 4 (.int .i64 (t2 : Int)))
  have CX : Chg (fun x => x = X) w6 (((((w6.setCell ⟨X, 0, none⟩ (.int .i64 kd)).setCell ⟨X, 1, none⟩ (.slice none 0 0)).setCell ⟨X, 2, none⟩ (.slice none 0 0)).setCell ⟨X, 3, none⟩ (.int .i64 0)).setCell ⟨X, 4, none⟩ (.int .i64 (t2 : Int))) := (((((Chg.set w6 X 0 (.int .i64 kd)).trans (Chg.set (w6.setCell ⟨X, 0, none⟩ (.int .i64 kd)) X 1 (.slice none 0 0))).trans (Chg.set ((w6.setCell ⟨X, 0, none⟩ (.int .i64 kd)).setCell ⟨X, 1, none⟩ (.slice none 0 0)) X 2 (.slice none 0 0))).trans (Chg.set (((w6.setCell ⟨X, 0, none⟩ (.int .i64 kd)).setCell ⟨X, 1, none⟩ (.slice none 0 0)).setCell ⟨X, 2, none⟩ (.slice none 0 0)) X 3 (.int .i64 0))).trans (Chg.set ((((w6.setCell ⟨X, 0, none⟩ (.int .i64 kd)).setCell ⟨X, 1, none⟩ (.slice none 0 0)).setCell ⟨X, 2, none⟩ (.slice none 0 0)).setCell ⟨X, 3, none⟩ (.int .i64 0)) X 4 (.int .i64 (t2 : Int))))
  have u0 := CX.cell (by have := DX.out; omega) z0
  have u1 := CX.cell (by have := DX.out; omega) z1
  have u2 := CX.cell (by have := DX.out; omega) z2
  have GF : Hid (Chg (fun _ => False) w3 (((((w6.setCell ⟨X, 0, none⟩ (.int .i64 kd)).setCell ⟨X, 1, none⟩ (.slice none 0 0)).setCell ⟨X, 2, none⟩ (.slice none 0 0)).setCell ⟨X, 3, none⟩ (.int .i64 0)).setCell ⟨X, 4, none⟩ (.int .i64 (t2 : Int)))) := hide (((GA.out.mono (T := fun x => x = X) (fun x _ h => h.elim)).trans CX).mono (fun x hx e => by have := DX.out; omega))
  clear CX
  go_simp
  refine hK.out _ _ ⟨u0, u1, u2⟩ (fun hHeld => ?_)
  clear hK K
  try simp only [Act.put, puts]
  refine wpAnyH_done (by kernel_rfl) ?_ _
  go_wp2_with fail
  go_meet
  exact ⟨X, rfl, XF, GF, hide DX.out.2⟩
 case rest =>
  obtain ⟨X, rfl, X4, G34, HX⟩ := hcut
  generalize wc = w4 at *
  have XL : Hid (D < X ∧ A < D ∧ rb < pb ∧ pb < A ∧ w.heap.size = A) := hide ⟨by have := olt T3.out; have := HX.out; omega, DL.out⟩
  have H4 := hide (H3.out.chg G34.out (fun _ _ h => h))
  have B4 := hide (G34.out.blk B3.out)
  have T4 := hide (G34.out.blk T3.out)
  have G4 : Hid (Chg (Pw rb pb) w w4) := hide (G3.out.trans G34.out).none
  clear H3 B3 T3 G3 G34 HX q0 q1 q2 BG
  have q0 := blk_cell T4.out 0
  have p0 := blk_cell X4.out 0
  simp only [gets] at q0 p0
  by_cases hbad : t0 ≠ 1 ∨ kd = 0
  ·
   have HR : Hid (itemS ts s k = .error (3, k)) := hide (by unfold itemS; rw [HT.out, HK.out, if_pos hbad])
   have FA := hide (fail_ok 3 (Or.inr rfl) H4.out)
   have TB : Hid ((t0 != 1) = true ∨ ((t0 != 1) = false ∧ (kd == 0) = true)) := hide (by
    by_cases e : t0 = 1
    ·
     rcases hbad with h | h
     ·
      exact absurd e h
     ·
      exact Or.inr ⟨by simp [e], by simp [h]⟩
    ·
     exact Or.inl (by simpa using e))
   clear hbad
   rcases TB.out with e1 | ⟨e1, e2⟩
   all_goals
    clear TB
    go_wp2_with fail
    refine FA.out.mono ?_
    rintro e w5 ⟨rfl, h5, g5⟩
    have H5 : Hid (PS w5 rb pb v ts s 0 (itemS ts s k).st) := hide (by rw [HR.out]; exact h5)
    have B5 := hide (g5.blkS (by have := XL.out; omega) B4.out)
    have G5 := hide (G4.out.trans (g5.mono (T := Pw rb pb) (fun x _ h => Or.inl h)))
    clear h5 g5
    have b0 := blk_cell B5.out 0
    have f0 := blk_free B5.out 0
    have b1 := blk_cell B5.out 1
    have f1 := blk_free B5.out 1
    have b2 := blk_cell B5.out 2
    have f2 := blk_free B5.out 2
    have b3 := blk_cell B5.out 3
    have f3 := blk_free B5.out 3
    have b4 := blk_cell B5.out 4
    have f4 := blk_free B5.out 4
    simp only [gets] at b0 b1 b2 b3 b4
    have NS : Hid ((((((w5.setCell ⟨A, 0, none⟩ (.int .i64 0)).setCell ⟨A, 1, none⟩ (.slice none 0 0)).setCell ⟨A, 2, none⟩ (.slice none 0 0)).setCell ⟨A, 3, none⟩ (.int .i64 0)).setCell ⟨A, 4, none⟩ (.int .i64 0)).heap[A]? = some (.cells #[.int .i64 0, .slice none 0 0, .slice none 0 0, .int .i64 0, .int .i64 0] 46) ∧ Chg (fun x => x = A) w5 (((((w5.setCell ⟨A, 0, none⟩ (.int .i64 0)).setCell ⟨A, 1, none⟩ (.slice none 0 0)).setCell ⟨A, 2, none⟩ (.slice none 0 0)).setCell ⟨A, 3, none⟩ (.int .i64 0)).setCell ⟨A, 4, none⟩ (.int .i64 0))) := hide ⟨(blk_set (blk_set (blk_set (blk_set (blk_set B5.out 0 (.int .i64 0)) 1 (.slice none 0 0)) 2 (.slice none 0 0)) 3 (.int .i64 0)) 4 (.int .i64 0)), (((((Chg.set w5 A 0 (.int .i64 0)).trans (Chg.set (w5.setCell ⟨A, 0, none⟩ (.int .i64 0)) A 1 (.slice none 0 0))).trans (Chg.set ((w5.setCell ⟨A, 0, none⟩ (.int .i64 0)).setCell ⟨A, 1, none⟩ (.slice none 0 0)) A 2 (.slice none 0 0))).trans (Chg.set (((w5.setCell ⟨A, 0, none⟩ (.int .i64 0)).setCell ⟨A, 1, none⟩ (.slice none 0 0)).setCell ⟨A, 2, none⟩ (.slice none 0 0)) A 3 (.int .i64 0))).trans (Chg.set ((((w5.setCell ⟨A, 0, none⟩ (.int .i64 0)).setCell ⟨A, 1, none⟩ (.slice none 0 0)).setCell ⟨A, 2, none⟩ (.slice none 0 0)).setCell ⟨A, 3, none⟩ (.int .i64 0)) A 4 (.int .i64 0)))⟩
    have FS := hide (H5.out.chg NS.out.2 (fun x hx e => by have h1 := XL.out; omega))
    have CS := hide (chg_fresh G5.out NS.out.2 (by have h1 := XL.out; omega))
    go_wp2_with fail
    generalize (((((w5.setCell ⟨A, 0, none⟩ (.int .i64 0)).setCell ⟨A, 1, none⟩ (.slice none 0 0)).setCell ⟨A, 2, none⟩ (.slice none 0 0)).setCell ⟨A, 3, none⟩ (.int .i64 0)).setCell ⟨A, 4, none⟩ (.int .i64 0)) = wF at *
    have r0 := blk_cell NS.out.1 0
    have r1 := blk_cell NS.out.1 1
    have r2 := blk_cell NS.out.1 2
    have r3 := blk_cell NS.out.1 3
    have r4 := blk_cell NS.out.1 4
    refine bodyPost_ret (v := .agg #[.int .i64 0, .slice none 0 0, .slice none 0 0, .int .i64 0, .int .i64 0]) (by simp [results, Try.results34, go_sem, r0, r1, r2, r3, r4]) rfl ?_
    exact ⟨⟨_, ((0, [], Ns.nil, 0, 0) : It), rfl, ⟨_, _, rfl, Sw.nil _ _, Ts.nil _ _⟩, fun q hq => by rw [HR.out] at hq; cases hq⟩, FS.out, CS.out⟩
  ·
   have e1 : (t0 != 1) = false := by simp; omega
   have e2 : (kd == 0) = false := by simp; omega
   have h1 : t0 = 1 := by omega
   have hk0 : kd ≠ 0 := by omega
   have HLT : Hid (k < ts.length) := hide (tokAt_len (s := s) (by rw [HT.out]; show t0 ≠ 4; omega))
   have HI : Hid (itemS ts s k = (bodyS ts s kd (k + 1)).bind fun x k1 => (mustS ts s bSemi k1).bind fun k2 => .ok ((kd, x.1, x.2.1, x.2.2, (t2 : Int)), k2)) := hide (by unfold itemS; rw [HT.out, HK.out, if_neg hbad])
   have N4 := hide (NX.out w4 H4.out)
   rw [tok_on HLT.out] at N4
   have KB2 : Hid (1 ≤ kd ∧ kd ≤ 12) := hide (by have := KB.out; omega)
   clear hbad NX h1 hk0 KB
   obtain ⟨c0, _, _, _, _, _⟩ := H4.out.cells
   go_wp2_with fail
   refine N4.out.mono ?_
   rintro e w5 ⟨rfl, hr, g5⟩
   have H5 := hide (H4.out.moved g5 hr HLT.out)
   have B5 := hide (g5.blkS (by have := XL.out; omega) B4.out)
   have X5 := hide (g5.blkS (by have := XL.out; omega) X4.out)
   have G5 := hide (G4.out.trans (g5.mono (T := Pw rb pb) (fun x _ h => Or.inr h)))
   have SZ5 : Hid (X < w5.heap.size) := hide (olt X5.out)
   clear hr g5 H4 B4 T4 X4 G4 N4 q0 p0 c0 e1 e2
   have p0 := blk_cell X5.out 0
   simp only [gets] at p0
   go_upto_block 0 with fail
   go_cut [2] (fun s2 wx => s2 = .pointer (some ⟨A, 0, none⟩) ∧ Hid (IMid w wx rb pb v ts s A X kd (t2 : Int) (bodyS ts s kd (k + 1))))
   case first =>
    have hkc : kd = 1 ∨ kd = 2 ∨ kd = 3 ∨ kd = 4 ∨ kd = 5 ∨ kd = 6 ∨ kd = 7 ∨ kd = 8 ∨ kd = 9 ∨ kd = 10 ∨ kd = 11 ∨ kd = 12 := by have := KB2.out; omega
    clear KB2 HI HK
    rcases hkc with rfl | rfl | rfl | rfl | rfl | rfl | rfl | rfl | rfl | rfl | rfl | rfl
    ·
     have HB : bodyS ts s 1 (k + 1) = (wordsS ts s (k + 1)).bind fun l k1 => .ok ((l, .nil, 0), k1) := by
      unfold bodyS
      rw [if_pos (by decide)]
     have C := hide (words_any H5.out)
     obtain ⟨r1, hr1⟩ : ∃ r1, wordsS ts s (k + 1) = r1 := ⟨_, rfl⟩
     have C : Hid (Calls Try.prog 53 #[.pointer (some ⟨pb, 0, none⟩)] w5 (WOut w5 rb pb v ts s 0 r1)) := by rw [← hr1]; exact C
     rw [hr1] at HB
     clear hr1
     go_wp2_with fail
     refine C.out.mono ?_
     rintro e w6 ⟨⟨u, l, rfl, hl, hq⟩, h6, g6⟩
     obtain ⟨a1, c1, rfl, _⟩ := id hl
     have HQ := hide hq
     have H6 := hide h6
     have B6 := hide (g6.blkS (by have := XL.out; rintro (e | e) <;> omega) B5.out)
     have X6 := hide (g6.blkS (by have := XL.out; rintro (e | e) <;> omega) X5.out)
     have G6 := hide (G5.out.trans g6)
     have SZ6 : Hid (X < w6.heap.size) := hide (olt X6.out)
     have S6 : Hid (Sw w6 (fun x => w.heap.size ≤ x ∧ x < w6.heap.size ∧ x ≠ A ∧ x ≠ X) (.slice a1 l.length c1) l) := hide (hl.up (fun x hx => ⟨by have := XL.out; have := SZ5.out; omega, hx.2, by have := XL.out; have := SZ5.out; omega, by have := SZ5.out; omega⟩))
     clear h6 g6 hl hq C H5 B5 X5 G5
     have d0 := blk_cell X6.out 1
     have d1 := blk_free X6.out 1
     have GS := Chg.set w6 X 1 (.slice a1 l.length c1)
     have X7 := hide (blk_set X6.out 1 (.slice a1 l.length c1))
     simp only [gets] at d0
     simp only [List.setIfInBounds_toArray, List.set_cons_zero, List.set_cons_succ] at X7
     have H7 := hide (H6.out.chg GS (fun x hx e => by have := XL.out; omega))
     have B7 := hide (GS.blkS (by have := XL.out; omega) B6.out)
     have G7 := hide (chg_fresh G6.out GS (by have := XL.out; omega))
     have Y7 := hide GS.size
     have S7 := hide (S6.out.chg GS (fun x hx e => hx.2.2.2 e))
     clear GS
     go_wp2_with fail
     generalize w6.setCell ⟨X, 1, none⟩ (.slice a1 l.length c1) = w7 at *
     clear d0 d1
     go_meet
     have LW := bind1 (h := fun l => (l, Ns.nil, (0 : Int))) HB (a := l) HQ.out
     refine ⟨rfl, hide ⟨l, Ns.nil, 0, a1, none, c1, 0, hide (by rw [← LW.1]; exact H7.out), B7, X7, hide (S7.out.up (fun x hx => ⟨hx.1, by have := Y7.out; have := hx.2.1; omega, hx.2.2⟩)), hide (Ts.nil _ _), G7, hide LW.2⟩⟩
    ·
     have HB : bodyS ts s 2 (k + 1) = (namedS ts s (k + 1)).bind fun l k1 => (typS ts s 60 k1).bind fun a k2 => .ok ((l, oneN a, 0), k2) := by
      unfold bodyS
      rw [if_neg (by decide), if_pos (by decide)]
     have C := hide (named_any H5.out)
     obtain ⟨r1, hr1⟩ : ∃ r1, namedS ts s (k + 1) = r1 := ⟨_, rfl⟩
     have C : Hid (Calls Try.prog 54 #[.pointer (some ⟨pb, 0, none⟩)] w5 (WOut w5 rb pb v ts s 0 r1)) := by rw [← hr1]; exact C
     rw [hr1] at HB
     clear hr1
     go_wp2_with fail
     refine C.out.mono ?_
     rintro e w6 ⟨⟨u, l, rfl, hl, hq⟩, h6, g6⟩
     obtain ⟨a1, c1, rfl, _⟩ := id hl
     have HQ := hide hq
     have H6 := hide h6
     have B6 := hide (g6.blkS (by have := XL.out; rintro (e | e) <;> omega) B5.out)
     have X6 := hide (g6.blkS (by have := XL.out; rintro (e | e) <;> omega) X5.out)
     have G6 := hide (G5.out.trans g6)
     have SZ6 : Hid (X < w6.heap.size) := hide (olt X6.out)
     have S6 : Hid (Sw w6 (fun x => w.heap.size ≤ x ∧ x < w6.heap.size ∧ x ≠ A ∧ x ≠ X) (.slice a1 l.length c1) l) := hide (hl.up (fun x hx => ⟨by have := XL.out; have := SZ5.out; omega, hx.2, by have := XL.out; have := SZ5.out; omega, by have := SZ5.out; omega⟩))
     clear h6 g6 hl hq C H5 B5 X5 G5
     have d0 := blk_cell X6.out 1
     have d1 := blk_free X6.out 1
     have GS := Chg.set w6 X 1 (.slice a1 l.length c1)
     have X7 := hide (blk_set X6.out 1 (.slice a1 l.length c1))
     simp only [gets] at d0
     simp only [List.setIfInBounds_toArray, List.set_cons_zero, List.set_cons_succ] at X7
     have H7 := hide (H6.out.chg GS (fun x hx e => by have := XL.out; omega))
     have B7 := hide (GS.blkS (by have := XL.out; omega) B6.out)
     have G7 := hide (chg_fresh G6.out GS (by have := XL.out; omega))
     have Y7 := hide GS.size
     have S7 := hide (S6.out.chg GS (fun x hx e => hx.2.2.2 e))
     clear GS
     go_wp2_with fail
     generalize w6.setCell ⟨X, 1, none⟩ (.slice a1 l.length c1) = w7 at *
     clear d0 d1
     have SZ7 : Hid (X < w7.heap.size) := hide (olt X7.out)
     have S7 := hide (S7.out.up (Y := (fun x => w.heap.size ≤ x ∧ x < w7.heap.size ∧ x ≠ A ∧ x ≠ X)) (fun x hx => ⟨hx.1, by have := Y7.out; have := hx.2.1; omega, hx.2.2⟩))
     have C2 := hide (typ_any 60 0 rfl r1.st w7 H7.out)
     go_wp2_with fail
     refine C2.out.mono ?_
     rintro e w8 ⟨⟨u, nd, rfl, hm, hq2⟩, h8, g8⟩
     obtain ⟨ma, mc, rfl, _⟩ := id hm
     have HQ2 := hide hq2
     obtain ⟨m0, m1, m2, m3⟩ := nd
     dsimp only [Nd.kind, Nd.word, Nd.at, Nd.kids] at *
     have GN := al w8 (.cells #[.int .i64 m0, .string m1, .int .i64 m2, .slice ma m3.len mc] 51)
     have BN := blk_new w8 (.cells #[.int .i64 m0, .string m1, .int .i64 m2, .slice ma m3.len mc] 51)
     have hSZ := g8.size
     have H8 := hide (h8.chg GN (fun _ _ h => h))
     have B8 := hide (GN.blk (g8.blkS (by have := XL.out; rintro (e | e) <;> omega) B7.out))
     have X8 := hide (GN.blk (g8.blkS (by have := XL.out; rintro (e | e) <;> omega) X7.out))
     have G8 := hide ((G7.out.trans g8).trans GN.none)
     have NT0 := (hm.chg GN (fun _ _ h => h)).up (Y := (fun x => w.heap.size ≤ x ∧ x < w8.heap.size + 1 ∧ x ≠ A ∧ x ≠ X)) (fun x hx => ⟨by have := XL.out; have := SZ7.out; omega, by omega, by have := XL.out; have := SZ7.out; omega, by have := SZ7.out; omega⟩)
     obtain ⟨_, _, ev, NT⟩ := NT0
     have N8 := hide (ts_one (X := (fun x => w.heap.size ≤ x ∧ x < w8.heap.size + 1 ∧ x ≠ A ∧ x ≠ X)) (g := w8.heap.size) (n := (m0, m1, m2, m3)) ⟨by have := XL.out; have := SZ7.out; omega, by omega, by have := XL.out; have := SZ7.out; omega, by have := SZ7.out; omega⟩ BN (by cases ev; exact NT))
     have S8 := hide (((S7.out.chg g8 (fun x hx e => by have := hx.1; have := XL.out; rcases e with e | e <;> omega)).chg GN (fun _ _ h => h)).up (Y := (fun x => w.heap.size ≤ x ∧ x < w8.heap.size + 1 ∧ x ≠ A ∧ x ≠ X)) (fun x hx => ⟨hx.1, by have := hx.2.1; omega, hx.2.2⟩))
     have AZ := hide (al_sz w8 (.cells #[.int .i64 m0, .string m1, .int .i64 m2, .slice ma m3.len mc] 51))
     obtain ⟨E, hE⟩ : ∃ E, w8.heap.size = E := ⟨_, rfl⟩
     rw [hE] at N8 AZ S8
     clear h8 g8 hm hq2 C2 GN BN hSZ ev NT H7 B7 X7 G7 S7
     have d0 := blk_cell X8.out 2
     have d1 := blk_free X8.out 2
     have GS := Chg.set (w8.alloc (.cells #[.int .i64 m0, .string m1, .int .i64 m2, .slice ma m3.len mc] 51)) X 2 (.slice (some ⟨E, 0, none⟩) 1 1)
     have X9 := hide (blk_set X8.out 2 (.slice (some ⟨E, 0, none⟩) 1 1))
     simp only [gets] at d0
     simp only [List.setIfInBounds_toArray, List.set_cons_zero, List.set_cons_succ] at X9
     have H9 := hide (H8.out.chg GS (fun x hx e => by have := XL.out; omega))
     have B9 := hide (GS.blkS (by have := XL.out; omega) B8.out)
     have G9 := hide (chg_fresh G8.out GS (by have := XL.out; omega))
     have Y9 := hide GS.size
     have S9 := hide (S8.out.chg GS (fun x hx e => hx.2.2.2 e))
     have N9 := hide (N8.out.chg GS (fun x hx e => hx.2.2.2 e))
     clear GS
     go_wp2_with fail
     generalize (w8.alloc (.cells #[.int .i64 m0, .string m1, .int .i64 m2, .slice ma m3.len mc] 51)).setCell ⟨X, 2, none⟩ (.slice (some ⟨E, 0, none⟩) 1 1) = w9 at *
     clear d0 d1
     go_meet
     have LW := bind2 (h := fun l a => (l, oneN a, (0 : Int))) HB (a := l) (b := (m0, m1, m2, m3)) HQ.out HQ2.out
     refine ⟨rfl, hide ⟨l, oneN (m0, m1, m2, m3), 0, a1, some ⟨E, 0, none⟩, c1, 1, hide (by rw [← LW.1]; exact H9.out), B9, X9, hide (S9.out.up (fun x hx => ⟨hx.1, by have := Y9.out; have := AZ.out; have := hx.2.1; omega, hx.2.2⟩)), hide (N9.out.up (fun x hx => ⟨hx.1, by have := Y9.out; have := AZ.out; have := hx.2.1; omega, hx.2.2⟩)), G9, hide LW.2⟩⟩
    ·
     have HB : bodyS ts s 3 (k + 1) = (namedS ts s (k + 1)).bind fun l k1 => (typS ts s 60 k1).bind fun a k2 => .ok ((l, oneN a, 0), k2) := by
      unfold bodyS
      rw [if_neg (by decide), if_pos (by decide)]
     have C := hide (named_any H5.out)
     obtain ⟨r1, hr1⟩ : ∃ r1, namedS ts s (k + 1) = r1 := ⟨_, rfl⟩
     have C : Hid (Calls Try.prog 54 #[.pointer (some ⟨pb, 0, none⟩)] w5 (WOut w5 rb pb v ts s 0 r1)) := by rw [← hr1]; exact C
     rw [hr1] at HB
     clear hr1
     go_wp2_with fail
     refine C.out.mono ?_
     rintro e w6 ⟨⟨u, l, rfl, hl, hq⟩, h6, g6⟩
     obtain ⟨a1, c1, rfl, _⟩ := id hl
     have HQ := hide hq
     have H6 := hide h6
     have B6 := hide (g6.blkS (by have := XL.out; rintro (e | e) <;> omega) B5.out)
     have X6 := hide (g6.blkS (by have := XL.out; rintro (e | e) <;> omega) X5.out)
     have G6 := hide (G5.out.trans g6)
     have SZ6 : Hid (X < w6.heap.size) := hide (olt X6.out)
     have S6 : Hid (Sw w6 (fun x => w.heap.size ≤ x ∧ x < w6.heap.size ∧ x ≠ A ∧ x ≠ X) (.slice a1 l.length c1) l) := hide (hl.up (fun x hx => ⟨by have := XL.out; have := SZ5.out; omega, hx.2, by have := XL.out; have := SZ5.out; omega, by have := SZ5.out; omega⟩))
     clear h6 g6 hl hq C H5 B5 X5 G5
     have d0 := blk_cell X6.out 1
     have d1 := blk_free X6.out 1
     have GS := Chg.set w6 X 1 (.slice a1 l.length c1)
     have X7 := hide (blk_set X6.out 1 (.slice a1 l.length c1))
     simp only [gets] at d0
     simp only [List.setIfInBounds_toArray, List.set_cons_zero, List.set_cons_succ] at X7
     have H7 := hide (H6.out.chg GS (fun x hx e => by have := XL.out; omega))
     have B7 := hide (GS.blkS (by have := XL.out; omega) B6.out)
     have G7 := hide (chg_fresh G6.out GS (by have := XL.out; omega))
     have Y7 := hide GS.size
     have S7 := hide (S6.out.chg GS (fun x hx e => hx.2.2.2 e))
     clear GS
     go_wp2_with fail
     generalize w6.setCell ⟨X, 1, none⟩ (.slice a1 l.length c1) = w7 at *
     clear d0 d1
     have SZ7 : Hid (X < w7.heap.size) := hide (olt X7.out)
     have S7 := hide (S7.out.up (Y := (fun x => w.heap.size ≤ x ∧ x < w7.heap.size ∧ x ≠ A ∧ x ≠ X)) (fun x hx => ⟨hx.1, by have := Y7.out; have := hx.2.1; omega, hx.2.2⟩))
     have C2 := hide (typ_any 60 0 rfl r1.st w7 H7.out)
     go_wp2_with fail
     refine C2.out.mono ?_
     rintro e w8 ⟨⟨u, nd, rfl, hm, hq2⟩, h8, g8⟩
     obtain ⟨ma, mc, rfl, _⟩ := id hm
     have HQ2 := hide hq2
     obtain ⟨m0, m1, m2, m3⟩ := nd
     dsimp only [Nd.kind, Nd.word, Nd.at, Nd.kids] at *
     have GN := al w8 (.cells #[.int .i64 m0, .string m1, .int .i64 m2, .slice ma m3.len mc] 51)
     have BN := blk_new w8 (.cells #[.int .i64 m0, .string m1, .int .i64 m2, .slice ma m3.len mc] 51)
     have hSZ := g8.size
     have H8 := hide (h8.chg GN (fun _ _ h => h))
     have B8 := hide (GN.blk (g8.blkS (by have := XL.out; rintro (e | e) <;> omega) B7.out))
     have X8 := hide (GN.blk (g8.blkS (by have := XL.out; rintro (e | e) <;> omega) X7.out))
     have G8 := hide ((G7.out.trans g8).trans GN.none)
     have NT0 := (hm.chg GN (fun _ _ h => h)).up (Y := (fun x => w.heap.size ≤ x ∧ x < w8.heap.size + 1 ∧ x ≠ A ∧ x ≠ X)) (fun x hx => ⟨by have := XL.out; have := SZ7.out; omega, by omega, by have := XL.out; have := SZ7.out; omega, by have := SZ7.out; omega⟩)
     obtain ⟨_, _, ev, NT⟩ := NT0
     have N8 := hide (ts_one (X := (fun x => w.heap.size ≤ x ∧ x < w8.heap.size + 1 ∧ x ≠ A ∧ x ≠ X)) (g := w8.heap.size) (n := (m0, m1, m2, m3)) ⟨by have := XL.out; have := SZ7.out; omega, by omega, by have := XL.out; have := SZ7.out; omega, by have := SZ7.out; omega⟩ BN (by cases ev; exact NT))
     have S8 := hide (((S7.out.chg g8 (fun x hx e => by have := hx.1; have := XL.out; rcases e with e | e <;> omega)).chg GN (fun _ _ h => h)).up (Y := (fun x => w.heap.size ≤ x ∧ x < w8.heap.size + 1 ∧ x ≠ A ∧ x ≠ X)) (fun x hx => ⟨hx.1, by have := hx.2.1; omega, hx.2.2⟩))
     have AZ := hide (al_sz w8 (.cells #[.int .i64 m0, .string m1, .int .i64 m2, .slice ma m3.len mc] 51))
     obtain ⟨E, hE⟩ : ∃ E, w8.heap.size = E := ⟨_, rfl⟩
     rw [hE] at N8 AZ S8
     clear h8 g8 hm hq2 C2 GN BN hSZ ev NT H7 B7 X7 G7 S7
     have d0 := blk_cell X8.out 2
     have d1 := blk_free X8.out 2
     have GS := Chg.set (w8.alloc (.cells #[.int .i64 m0, .string m1, .int .i64 m2, .slice ma m3.len mc] 51)) X 2 (.slice (some ⟨E, 0, none⟩) 1 1)
     have X9 := hide (blk_set X8.out 2 (.slice (some ⟨E, 0, none⟩) 1 1))
     simp only [gets] at d0
     simp only [List.setIfInBounds_toArray, List.set_cons_zero, List.set_cons_succ] at X9
     have H9 := hide (H8.out.chg GS (fun x hx e => by have := XL.out; omega))
     have B9 := hide (GS.blkS (by have := XL.out; omega) B8.out)
     have G9 := hide (chg_fresh G8.out GS (by have := XL.out; omega))
     have Y9 := hide GS.size
     have S9 := hide (S8.out.chg GS (fun x hx e => hx.2.2.2 e))
     have N9 := hide (N8.out.chg GS (fun x hx e => hx.2.2.2 e))
     clear GS
     go_wp2_with fail
     generalize (w8.alloc (.cells #[.int .i64 m0, .string m1, .int .i64 m2, .slice ma m3.len mc] 51)).setCell ⟨X, 2, none⟩ (.slice (some ⟨E, 0, none⟩) 1 1) = w9 at *
     clear d0 d1
     go_meet
     have LW := bind2 (h := fun l a => (l, oneN a, (0 : Int))) HB (a := l) (b := (m0, m1, m2, m3)) HQ.out HQ2.out
     refine ⟨rfl, hide ⟨l, oneN (m0, m1, m2, m3), 0, a1, some ⟨E, 0, none⟩, c1, 1, hide (by rw [← LW.1]; exact H9.out), B9, X9, hide (S9.out.up (fun x hx => ⟨hx.1, by have := Y9.out; have := AZ.out; have := hx.2.1; omega, hx.2.2⟩)), hide (N9.out.up (fun x hx => ⟨hx.1, by have := Y9.out; have := AZ.out; have := hx.2.1; omega, hx.2.2⟩)), G9, hide LW.2⟩⟩
    ·
     have HB : bodyS ts s 4 (k + 1) = (namedS ts s (k + 1)).bind fun l k1 => (termsS ts s bEq k1).bind fun a k2 => .ok ((l, a, 0), k2) := by
      unfold bodyS
      rw [if_neg (by decide), if_neg (by decide), if_pos (by decide)]
     have C := hide (named_any H5.out)
     obtain ⟨r1, hr1⟩ : ∃ r1, namedS ts s (k + 1) = r1 := ⟨_, rfl⟩
     have C : Hid (Calls Try.prog 54 #[.pointer (some ⟨pb, 0, none⟩)] w5 (WOut w5 rb pb v ts s 0 r1)) := by rw [← hr1]; exact C
     rw [hr1] at HB
     clear hr1
     go_wp2_with fail
     refine C.out.mono ?_
     rintro e w6 ⟨⟨u, l, rfl, hl, hq⟩, h6, g6⟩
     obtain ⟨a1, c1, rfl, _⟩ := id hl
     have HQ := hide hq
     have H6 := hide h6
     have B6 := hide (g6.blkS (by have := XL.out; rintro (e | e) <;> omega) B5.out)
     have X6 := hide (g6.blkS (by have := XL.out; rintro (e | e) <;> omega) X5.out)
     have G6 := hide (G5.out.trans g6)
     have SZ6 : Hid (X < w6.heap.size) := hide (olt X6.out)
     have S6 : Hid (Sw w6 (fun x => w.heap.size ≤ x ∧ x < w6.heap.size ∧ x ≠ A ∧ x ≠ X) (.slice a1 l.length c1) l) := hide (hl.up (fun x hx => ⟨by have := XL.out; have := SZ5.out; omega, hx.2, by have := XL.out; have := SZ5.out; omega, by have := SZ5.out; omega⟩))
     clear h6 g6 hl hq C H5 B5 X5 G5
     have d0 := blk_cell X6.out 1
     have d1 := blk_free X6.out 1
     have GS := Chg.set w6 X 1 (.slice a1 l.length c1)
     have X7 := hide (blk_set X6.out 1 (.slice a1 l.length c1))
     simp only [gets] at d0
     simp only [List.setIfInBounds_toArray, List.set_cons_zero, List.set_cons_succ] at X7
     have H7 := hide (H6.out.chg GS (fun x hx e => by have := XL.out; omega))
     have B7 := hide (GS.blkS (by have := XL.out; omega) B6.out)
     have G7 := hide (chg_fresh G6.out GS (by have := XL.out; omega))
     have Y7 := hide GS.size
     have S7 := hide (S6.out.chg GS (fun x hx e => hx.2.2.2 e))
     clear GS
     go_wp2_with fail
     generalize w6.setCell ⟨X, 1, none⟩ (.slice a1 l.length c1) = w7 at *
     clear d0 d1
     have SZ7 : Hid (X < w7.heap.size) := hide (olt X7.out)
     have S7 := hide (S7.out.up (Y := (fun x => w.heap.size ≤ x ∧ x < w7.heap.size ∧ x ≠ A ∧ x ≠ X)) (fun x hx => ⟨hx.1, by have := Y7.out; have := hx.2.1; omega, hx.2.2⟩))
     have C2 := hide (terms_any bEq H7.out)
     go_wp2_with fail
     refine C2.out.mono ?_
     rintro e w8 ⟨⟨u, nn, rfl, hm, hq2⟩, h8, g8⟩
     obtain ⟨a2, c2, rfl, _⟩ := id hm
     have HQ2 := hide hq2
     have H8 := hide h8
     have B8 := hide (g8.blkS (by have := XL.out; rintro (e | e) <;> omega) B7.out)
     have X8 := hide (g8.blkS (by have := XL.out; rintro (e | e) <;> omega) X7.out)
     have G8 := hide (G7.out.trans g8)
     have SZ8 : Hid (X < w8.heap.size) := hide (olt X8.out)
     have N8 : Hid (Ts w8 (fun x => w.heap.size ≤ x ∧ x < w8.heap.size ∧ x ≠ A ∧ x ≠ X) (.slice a2 nn.len c2) nn) := hide (hm.up (fun x hx => ⟨by have := XL.out; have := SZ7.out; omega, hx.2, by have := XL.out; have := SZ7.out; omega, by have := SZ7.out; omega⟩))
     have S8 := hide ((S7.out.chg g8 (fun x hx e => by have := hx.1; have := XL.out; rcases e with e | e <;> omega)).up (Y := (fun x => w.heap.size ≤ x ∧ x < w8.heap.size ∧ x ≠ A ∧ x ≠ X)) (fun x hx => ⟨hx.1, by have := g8.size; have := hx.2.1; omega, hx.2.2⟩))
     clear h8 g8 hm hq2 C2 H7 B7 X7 G7 S7
     have d0 := blk_cell X8.out 2
     have d1 := blk_free X8.out 2
     have GS := Chg.set w8 X 2 (.slice a2 nn.len c2)
     have X9 := hide (blk_set X8.out 2 (.slice a2 nn.len c2))
     simp only [gets] at d0
     simp only [List.setIfInBounds_toArray, List.set_cons_zero, List.set_cons_succ] at X9
     have H9 := hide (H8.out.chg GS (fun x hx e => by have := XL.out; omega))
     have B9 := hide (GS.blkS (by have := XL.out; omega) B8.out)
     have G9 := hide (chg_fresh G8.out GS (by have := XL.out; omega))
     have Y9 := hide GS.size
     have S9 := hide (S8.out.chg GS (fun x hx e => hx.2.2.2 e))
     have N9 := hide (N8.out.chg GS (fun x hx e => hx.2.2.2 e))
     clear GS
     go_wp2_with fail
     generalize w8.setCell ⟨X, 2, none⟩ (.slice a2 nn.len c2) = w9 at *
     clear d0 d1
     go_meet
     have LW := bind2 (h := fun l a => (l, a, (0 : Int))) HB (a := l) (b := nn) HQ.out HQ2.out
     refine ⟨rfl, hide ⟨l, nn, 0, a1, a2, c1, c2, hide (by rw [← LW.1]; exact H9.out), B9, X9, hide (S9.out.up (fun x hx => ⟨hx.1, by have := Y9.out; have := hx.2.1; omega, hx.2.2⟩)), hide (N9.out.up (fun x hx => ⟨hx.1, by have := Y9.out; have := hx.2.1; omega, hx.2.2⟩)), G9, hide LW.2⟩⟩
    ·
     have HB : bodyS ts s 5 (k + 1) = (namedS ts s (k + 1)).bind fun l k1 => (termsS ts s bGt k1).bind fun a k2 => .ok ((l, a, 0), k2) := by
      unfold bodyS
      rw [if_neg (by decide), if_neg (by decide), if_neg (by decide), if_pos (by decide)]
     have C := hide (named_any H5.out)
     obtain ⟨r1, hr1⟩ : ∃ r1, namedS ts s (k + 1) = r1 := ⟨_, rfl⟩
     have C : Hid (Calls Try.prog 54 #[.pointer (some ⟨pb, 0, none⟩)] w5 (WOut w5 rb pb v ts s 0 r1)) := by rw [← hr1]; exact C
     rw [hr1] at HB
     clear hr1
     go_wp2_with fail
     refine C.out.mono ?_
     rintro e w6 ⟨⟨u, l, rfl, hl, hq⟩, h6, g6⟩
     obtain ⟨a1, c1, rfl, _⟩ := id hl
     have HQ := hide hq
     have H6 := hide h6
     have B6 := hide (g6.blkS (by have := XL.out; rintro (e | e) <;> omega) B5.out)
     have X6 := hide (g6.blkS (by have := XL.out; rintro (e | e) <;> omega) X5.out)
     have G6 := hide (G5.out.trans g6)
     have SZ6 : Hid (X < w6.heap.size) := hide (olt X6.out)
     have S6 : Hid (Sw w6 (fun x => w.heap.size ≤ x ∧ x < w6.heap.size ∧ x ≠ A ∧ x ≠ X) (.slice a1 l.length c1) l) := hide (hl.up (fun x hx => ⟨by have := XL.out; have := SZ5.out; omega, hx.2, by have := XL.out; have := SZ5.out; omega, by have := SZ5.out; omega⟩))
     clear h6 g6 hl hq C H5 B5 X5 G5
     have d0 := blk_cell X6.out 1
     have d1 := blk_free X6.out 1
     have GS := Chg.set w6 X 1 (.slice a1 l.length c1)
     have X7 := hide (blk_set X6.out 1 (.slice a1 l.length c1))
     simp only [gets] at d0
     simp only [List.setIfInBounds_toArray, List.set_cons_zero, List.set_cons_succ] at X7
     have H7 := hide (H6.out.chg GS (fun x hx e => by have := XL.out; omega))
     have B7 := hide (GS.blkS (by have := XL.out; omega) B6.out)
     have G7 := hide (chg_fresh G6.out GS (by have := XL.out; omega))
     have Y7 := hide GS.size
     have S7 := hide (S6.out.chg GS (fun x hx e => hx.2.2.2 e))
     clear GS
     go_wp2_with fail
     generalize w6.setCell ⟨X, 1, none⟩ (.slice a1 l.length c1) = w7 at *
     clear d0 d1
     have SZ7 : Hid (X < w7.heap.size) := hide (olt X7.out)
     have S7 := hide (S7.out.up (Y := (fun x => w.heap.size ≤ x ∧ x < w7.heap.size ∧ x ≠ A ∧ x ≠ X)) (fun x hx => ⟨hx.1, by have := Y7.out; have := hx.2.1; omega, hx.2.2⟩))
     have C2 := hide (terms_any bGt H7.out)
     go_wp2_with fail
     refine C2.out.mono ?_
     rintro e w8 ⟨⟨u, nn, rfl, hm, hq2⟩, h8, g8⟩
     obtain ⟨a2, c2, rfl, _⟩ := id hm
     have HQ2 := hide hq2
     have H8 := hide h8
     have B8 := hide (g8.blkS (by have := XL.out; rintro (e | e) <;> omega) B7.out)
     have X8 := hide (g8.blkS (by have := XL.out; rintro (e | e) <;> omega) X7.out)
     have G8 := hide (G7.out.trans g8)
     have SZ8 : Hid (X < w8.heap.size) := hide (olt X8.out)
     have N8 : Hid (Ts w8 (fun x => w.heap.size ≤ x ∧ x < w8.heap.size ∧ x ≠ A ∧ x ≠ X) (.slice a2 nn.len c2) nn) := hide (hm.up (fun x hx => ⟨by have := XL.out; have := SZ7.out; omega, hx.2, by have := XL.out; have := SZ7.out; omega, by have := SZ7.out; omega⟩))
     have S8 := hide ((S7.out.chg g8 (fun x hx e => by have := hx.1; have := XL.out; rcases e with e | e <;> omega)).up (Y := (fun x => w.heap.size ≤ x ∧ x < w8.heap.size ∧ x ≠ A ∧ x ≠ X)) (fun x hx => ⟨hx.1, by have := g8.size; have := hx.2.1; omega, hx.2.2⟩))
     clear h8 g8 hm hq2 C2 H7 B7 X7 G7 S7
     have d0 := blk_cell X8.out 2
     have d1 := blk_free X8.out 2
     have GS := Chg.set w8 X 2 (.slice a2 nn.len c2)
     have X9 := hide (blk_set X8.out 2 (.slice a2 nn.len c2))
     simp only [gets] at d0
     simp only [List.setIfInBounds_toArray, List.set_cons_zero, List.set_cons_succ] at X9
     have H9 := hide (H8.out.chg GS (fun x hx e => by have := XL.out; omega))
     have B9 := hide (GS.blkS (by have := XL.out; omega) B8.out)
     have G9 := hide (chg_fresh G8.out GS (by have := XL.out; omega))
     have Y9 := hide GS.size
     have S9 := hide (S8.out.chg GS (fun x hx e => hx.2.2.2 e))
     have N9 := hide (N8.out.chg GS (fun x hx e => hx.2.2.2 e))
     clear GS
     go_wp2_with fail
     generalize w8.setCell ⟨X, 2, none⟩ (.slice a2 nn.len c2) = w9 at *
     clear d0 d1
     go_meet
     have LW := bind2 (h := fun l a => (l, a, (0 : Int))) HB (a := l) (b := nn) HQ.out HQ2.out
     refine ⟨rfl, hide ⟨l, nn, 0, a1, a2, c1, c2, hide (by rw [← LW.1]; exact H9.out), B9, X9, hide (S9.out.up (fun x hx => ⟨hx.1, by have := Y9.out; have := hx.2.1; omega, hx.2.2⟩)), hide (N9.out.up (fun x hx => ⟨hx.1, by have := Y9.out; have := hx.2.1; omega, hx.2.2⟩)), G9, hide LW.2⟩⟩
    ·
     have HB : bodyS ts s 6 (k + 1) = (chainS ts s (k + 1)).bind fun l k1 => .ok ((l, .nil, 0), k1) := by
      unfold bodyS
      rw [if_neg (by decide), if_neg (by decide), if_neg (by decide), if_neg (by decide), if_pos (by decide)]
     have C := hide (chain_any H5.out)
     obtain ⟨r1, hr1⟩ : ∃ r1, chainS ts s (k + 1) = r1 := ⟨_, rfl⟩
     have C : Hid (Calls Try.prog 56 #[.pointer (some ⟨pb, 0, none⟩)] w5 (WOut w5 rb pb v ts s 0 r1)) := by rw [← hr1]; exact C
     rw [hr1] at HB
     clear hr1
     go_wp2_with fail
     refine C.out.mono ?_
     rintro e w6 ⟨⟨u, l, rfl, hl, hq⟩, h6, g6⟩
     obtain ⟨a1, c1, rfl, _⟩ := id hl
     have HQ := hide hq
     have H6 := hide h6
     have B6 := hide (g6.blkS (by have := XL.out; rintro (e | e) <;> omega) B5.out)
     have X6 := hide (g6.blkS (by have := XL.out; rintro (e | e) <;> omega) X5.out)
     have G6 := hide (G5.out.trans g6)
     have SZ6 : Hid (X < w6.heap.size) := hide (olt X6.out)
     have S6 : Hid (Sw w6 (fun x => w.heap.size ≤ x ∧ x < w6.heap.size ∧ x ≠ A ∧ x ≠ X) (.slice a1 l.length c1) l) := hide (hl.up (fun x hx => ⟨by have := XL.out; have := SZ5.out; omega, hx.2, by have := XL.out; have := SZ5.out; omega, by have := SZ5.out; omega⟩))
     clear h6 g6 hl hq C H5 B5 X5 G5
     have d0 := blk_cell X6.out 1
     have d1 := blk_free X6.out 1
     have GS := Chg.set w6 X 1 (.slice a1 l.length c1)
     have X7 := hide (blk_set X6.out 1 (.slice a1 l.length c1))
     simp only [gets] at d0
     simp only [List.setIfInBounds_toArray, List.set_cons_zero, List.set_cons_succ] at X7
     have H7 := hide (H6.out.chg GS (fun x hx e => by have := XL.out; omega))
     have B7 := hide (GS.blkS (by have := XL.out; omega) B6.out)
     have G7 := hide (chg_fresh G6.out GS (by have := XL.out; omega))
     have Y7 := hide GS.size
     have S7 := hide (S6.out.chg GS (fun x hx e => hx.2.2.2 e))
     clear GS
     go_wp2_with fail
     generalize w6.setCell ⟨X, 1, none⟩ (.slice a1 l.length c1) = w7 at *
     clear d0 d1
     go_meet
     have LW := bind1 (h := fun l => (l, Ns.nil, (0 : Int))) HB (a := l) HQ.out
     refine ⟨rfl, hide ⟨l, Ns.nil, 0, a1, none, c1, 0, hide (by rw [← LW.1]; exact H7.out), B7, X7, hide (S7.out.up (fun x hx => ⟨hx.1, by have := Y7.out; have := hx.2.1; omega, hx.2.2⟩)), hide (Ts.nil _ _), G7, hide LW.2⟩⟩
    ·
     have HB : bodyS ts s 7 (k + 1) = (tokS ts s 1 (k + 1)).bind fun t k1 => (tokS ts s 1 k1).bind fun u k2 => .ok (([t.2.1, u.2.1], .nil, 0), k2) := by
      unfold bodyS
      rw [if_neg (by decide), if_neg (by decide), if_neg (by decide), if_neg (by decide), if_neg (by decide), if_pos (by decide)]
     have C := hide (word_any H5.out)
     have C : Hid (Calls Try.prog 57 #[.pointer (some ⟨pb, 0, none⟩)] w5 fun e w' => e = .returned (.string (tokOf (tokS ts s 1 (k + 1))).2.1) ∧ PS w' rb pb v ts s 0 (tokS ts s 1 (k + 1)).st ∧ Chg (Pw rb pb) w5 w') := C
     generalize tokS ts s 1 (k + 1) = r1 at *
     obtain ⟨x1, hx1⟩ : ∃ x1, (tokOf r1).2.1 = x1 := ⟨_, rfl⟩
     rw [hx1] at C
     have HX1 := hide hx1
     clear hx1
     go_wp2_with fail
     refine C.out.mono ?_
     rintro e w6 ⟨rfl, h6, g6⟩
     have H6 := hide h6
     have B6 := hide (g6.blkS (by have := XL.out; rintro (e | e) <;> omega) B5.out)
     have X6 := hide (g6.blkS (by have := XL.out; rintro (e | e) <;> omega) X5.out)
     have G6 := hide (G5.out.trans g6)
     have SZ6 : Hid (X < w6.heap.size) := hide (olt X6.out)
     clear h6 g6 C H5 B5 X5 G5
     have C := hide (word_any H6.out)
     obtain ⟨r2, hr2⟩ : ∃ r2, r1.st.bind (tokS ts s 1) = r2 := ⟨_, rfl⟩
     rw [hr2] at C
     have HR2 := hide hr2
     clear hr2
     obtain ⟨x2, hx2⟩ : ∃ x2, (tokOf r2).2.1 = x2 := ⟨_, rfl⟩
     rw [hx2] at C
     have HX2 := hide hx2
     clear hx2
     go_wp2_with fail
     refine C.out.mono ?_
     rintro e w7 ⟨rfl, h7, g7⟩
     have H7 := hide h7
     have B7 := hide (g7.blkS (by have := XL.out; rintro (e | e) <;> omega) B6.out)
     have X7 := hide (g7.blkS (by have := XL.out; rintro (e | e) <;> omega) X6.out)
     have G7 := hide (G6.out.trans g7)
     have SZ7 : Hid (X < w7.heap.size) := hide (olt X7.out)
     clear h7 g7 C H6 B6 X6 G6
     have GN := al w7 (.cells #[.string x1, .string x2] 9)
     have BN := blk_new w7 (.cells #[.string x1, .string x2] 9)
     have H8 := hide (H7.out.chg GN (fun _ _ h => h))
     have B8 := hide (GN.blk B7.out)
     have X8 := hide (GN.blk X7.out)
     have G8 := hide (G7.out.trans GN.none)
     have S8 := hide (sw_two (X := fun x => w.heap.size ≤ x ∧ x < w7.heap.size + 1 ∧ x ≠ A ∧ x ≠ X) BN ⟨by have := XL.out; have := SZ7.out; omega, by omega, by have := XL.out; have := SZ7.out; omega, by have := SZ7.out; omega⟩)
     have AZ := hide (al_sz w7 (.cells #[.string x1, .string x2] 9))
     obtain ⟨E, hE⟩ : ∃ E, w7.heap.size = E := ⟨_, rfl⟩
     rw [hE] at S8 AZ
     clear GN BN H7 B7 X7 G7
     have d0 := blk_cell X8.out 1
     have d1 := blk_free X8.out 1
     have GS := Chg.set (w7.alloc (.cells #[.string x1, .string x2] 9)) X 1 (.slice (some ⟨E, 0, none⟩) 2 2)
     have X9 := hide (blk_set X8.out 1 (.slice (some ⟨E, 0, none⟩) 2 2))
     simp only [gets] at d0
     simp only [List.setIfInBounds_toArray, List.set_cons_zero, List.set_cons_succ] at X9
     have H9 := hide (H8.out.chg GS (fun x hx e => by have := XL.out; omega))
     have B9 := hide (GS.blkS (by have := XL.out; omega) B8.out)
     have G9 := hide (chg_fresh G8.out GS (by have := XL.out; omega))
     have Y9 := hide GS.size
     have S9 := hide (S8.out.chg GS (fun x hx e => hx.2.2.2 e))
     clear GS
     go_wp2_with fail
     generalize (w7.alloc (.cells #[.string x1, .string x2] 9)).setCell ⟨X, 1, none⟩ (.slice (some ⟨E, 0, none⟩) 2 2) = w9 at *
     clear d0 d1
     go_meet
     have LW0 := bind2 (f := tokS ts s 1) (h := fun t u : Tok => (([t.2.1, u.2.1] : List ByteArray), Ns.nil, (0 : Int))) HB (a := tokOf r1) (b := tokOf r2) tok_ok (by rw [HR2.out]; exact tok_ok)
     rw [HR2.out] at LW0
     have LW : r2.st = (bodyS ts s 7 (k + 1)).st ∧ ∀ q, bodyS ts s 7 (k + 1) = .ok q → (([x1, x2] : List ByteArray), Ns.nil, (0 : Int)) = q.1 := ⟨LW0.1, fun q hq => by rw [← HX1.out, ← HX2.out]; exact LW0.2 q hq⟩
     refine ⟨rfl, hide ⟨[x1, x2], Ns.nil, 0, some ⟨E, 0, none⟩, none, 2, 0, hide (by rw [← LW.1]; exact H9.out), B9, X9, hide (S9.out.up (fun x hx => ⟨hx.1, by have := Y9.out; have := AZ.out; have := hx.2.1; omega, hx.2.2⟩)), hide (Ts.nil _ _), G9, hide LW.2⟩⟩
    ·
     have HB0 : bodyS ts s 8 (k + 1) = (tokS ts s 2 (k + 1)).bind fun t k1 => .ok (([], .nil, numV t), k1) := by
      unfold bodyS
      rw [if_neg (by decide), if_neg (by decide), if_neg (by decide), if_neg (by decide), if_neg (by decide), if_neg (by decide), if_neg (by decide), if_neg (by decide), if_neg (by decide)]
     have HB : bodyS ts s 8 (k + 1) = (numS ts s (k + 1)).bind fun n k1 => .ok (([], .nil, n), k1) := by
      rw [HB0]
      unfold numS
      cases tokS ts s 2 (k + 1) <;> rfl
     clear HB0
     have C := hide (number_any H5.out)
     obtain ⟨r1, hr1⟩ : ∃ r1, numS ts s (k + 1) = r1 := ⟨_, rfl⟩
     have C : Hid (Calls Try.prog 59 #[.pointer (some ⟨pb, 0, none⟩)] w5 (NOut w5 rb pb v ts s 0 r1)) := by rw [← hr1]; exact C
     rw [hr1] at HB
     clear hr1
     go_wp2_with fail
     refine C.out.mono ?_
     rintro e w6 ⟨⟨num, rfl, hq⟩, h6, g6⟩
     have HQ := hide hq
     have H6 := hide h6
     have B6 := hide (g6.blkS (by have := XL.out; rintro (e | e) <;> omega) B5.out)
     have X6 := hide (g6.blkS (by have := XL.out; rintro (e | e) <;> omega) X5.out)
     have G6 := hide (G5.out.trans g6)
     have SZ6 : Hid (X < w6.heap.size) := hide (olt X6.out)
     clear h6 g6 hq C H5 B5 X5 G5
     have d0 := blk_cell X6.out 3
     have d1 := blk_free X6.out 3
     have GS := Chg.set w6 X 3 (.int .i64 num)
     have X7 := hide (blk_set X6.out 3 (.int .i64 num))
     simp only [gets] at d0
     simp only [List.setIfInBounds_toArray, List.set_cons_zero, List.set_cons_succ] at X7
     have H7 := hide (H6.out.chg GS (fun x hx e => by have := XL.out; omega))
     have B7 := hide (GS.blkS (by have := XL.out; omega) B6.out)
     have G7 := hide (chg_fresh G6.out GS (by have := XL.out; omega))
     have Y7 := hide GS.size
     clear GS
     go_wp2_with fail
     generalize w6.setCell ⟨X, 3, none⟩ (.int .i64 num) = w7 at *
     clear d0 d1
     have SZ7 : Hid (X < w7.heap.size) := hide (olt X7.out)
     go_meet
     have LW := bind1 (h := fun n => (([] : List ByteArray), Ns.nil, n)) HB (a := num) HQ.out
     refine ⟨rfl, hide ⟨[], Ns.nil, num, none, none, 0, 0, hide (by rw [← LW.1]; exact H7.out), B7, X7, hide (Sw.nil _ _), hide (Ts.nil _ _), G7, hide LW.2⟩⟩
    ·
     have HB : bodyS ts s 9 (k + 1) = (countedS ts s (k + 1)).bind fun n k1 => (termS ts s 60 k1).bind fun a k2 => .ok (([], oneN a, n), k2) := by
      unfold bodyS
      rw [if_neg (by decide), if_neg (by decide), if_neg (by decide), if_neg (by decide), if_neg (by decide), if_neg (by decide), if_pos (by decide)]
     have C := hide (counted_any H5.out)
     obtain ⟨r1, hr1⟩ : ∃ r1, countedS ts s (k + 1) = r1 := ⟨_, rfl⟩
     have C : Hid (Calls Try.prog 58 #[.pointer (some ⟨pb, 0, none⟩)] w5 (NOut w5 rb pb v ts s 0 r1)) := by rw [← hr1]; exact C
     rw [hr1] at HB
     clear hr1
     go_wp2_with fail
     refine C.out.mono ?_
     rintro e w6 ⟨⟨num, rfl, hq⟩, h6, g6⟩
     have HQ := hide hq
     have H6 := hide h6
     have B6 := hide (g6.blkS (by have := XL.out; rintro (e | e) <;> omega) B5.out)
     have X6 := hide (g6.blkS (by have := XL.out; rintro (e | e) <;> omega) X5.out)
     have G6 := hide (G5.out.trans g6)
     have SZ6 : Hid (X < w6.heap.size) := hide (olt X6.out)
     clear h6 g6 hq C H5 B5 X5 G5
     have d0 := blk_cell X6.out 3
     have d1 := blk_free X6.out 3
     have GS := Chg.set w6 X 3 (.int .i64 num)
     have X7 := hide (blk_set X6.out 3 (.int .i64 num))
     simp only [gets] at d0
     simp only [List.setIfInBounds_toArray, List.set_cons_zero, List.set_cons_succ] at X7
     have H7 := hide (H6.out.chg GS (fun x hx e => by have := XL.out; omega))
     have B7 := hide (GS.blkS (by have := XL.out; omega) B6.out)
     have G7 := hide (chg_fresh G6.out GS (by have := XL.out; omega))
     have Y7 := hide GS.size
     clear GS
     go_wp2_with fail
     generalize w6.setCell ⟨X, 3, none⟩ (.int .i64 num) = w7 at *
     clear d0 d1
     have SZ7 : Hid (X < w7.heap.size) := hide (olt X7.out)
     have C2 := hide (term_any 60 0 rfl r1.st w7 H7.out)
     go_wp2_with fail
     refine C2.out.mono ?_
     rintro e w8 ⟨⟨u, nd, rfl, hm, hq2⟩, h8, g8⟩
     obtain ⟨ma, mc, rfl, _⟩ := id hm
     have HQ2 := hide hq2
     obtain ⟨m0, m1, m2, m3⟩ := nd
     dsimp only [Nd.kind, Nd.word, Nd.at, Nd.kids] at *
     have GN := al w8 (.cells #[.int .i64 m0, .string m1, .int .i64 m2, .slice ma m3.len mc] 51)
     have BN := blk_new w8 (.cells #[.int .i64 m0, .string m1, .int .i64 m2, .slice ma m3.len mc] 51)
     have hSZ := g8.size
     have H8 := hide (h8.chg GN (fun _ _ h => h))
     have B8 := hide (GN.blk (g8.blkS (by have := XL.out; rintro (e | e) <;> omega) B7.out))
     have X8 := hide (GN.blk (g8.blkS (by have := XL.out; rintro (e | e) <;> omega) X7.out))
     have G8 := hide ((G7.out.trans g8).trans GN.none)
     have NT0 := (hm.chg GN (fun _ _ h => h)).up (Y := (fun x => w.heap.size ≤ x ∧ x < w8.heap.size + 1 ∧ x ≠ A ∧ x ≠ X)) (fun x hx => ⟨by have := XL.out; have := SZ7.out; omega, by omega, by have := XL.out; have := SZ7.out; omega, by have := SZ7.out; omega⟩)
     obtain ⟨_, _, ev, NT⟩ := NT0
     have N8 := hide (ts_one (X := (fun x => w.heap.size ≤ x ∧ x < w8.heap.size + 1 ∧ x ≠ A ∧ x ≠ X)) (g := w8.heap.size) (n := (m0, m1, m2, m3)) ⟨by have := XL.out; have := SZ7.out; omega, by omega, by have := XL.out; have := SZ7.out; omega, by have := SZ7.out; omega⟩ BN (by cases ev; exact NT))
     have AZ := hide (al_sz w8 (.cells #[.int .i64 m0, .string m1, .int .i64 m2, .slice ma m3.len mc] 51))
     obtain ⟨E, hE⟩ : ∃ E, w8.heap.size = E := ⟨_, rfl⟩
     rw [hE] at N8 AZ 
     clear h8 g8 hm hq2 C2 GN BN hSZ ev NT H7 B7 X7 G7 
     have d0 := blk_cell X8.out 2
     have d1 := blk_free X8.out 2
     have GS := Chg.set (w8.alloc (.cells #[.int .i64 m0, .string m1, .int .i64 m2, .slice ma m3.len mc] 51)) X 2 (.slice (some ⟨E, 0, none⟩) 1 1)
     have X9 := hide (blk_set X8.out 2 (.slice (some ⟨E, 0, none⟩) 1 1))
     simp only [gets] at d0
     simp only [List.setIfInBounds_toArray, List.set_cons_zero, List.set_cons_succ] at X9
     have H9 := hide (H8.out.chg GS (fun x hx e => by have := XL.out; omega))
     have B9 := hide (GS.blkS (by have := XL.out; omega) B8.out)
     have G9 := hide (chg_fresh G8.out GS (by have := XL.out; omega))
     have Y9 := hide GS.size
     have N9 := hide (N8.out.chg GS (fun x hx e => hx.2.2.2 e))
     clear GS
     go_wp2_with fail
     generalize (w8.alloc (.cells #[.int .i64 m0, .string m1, .int .i64 m2, .slice ma m3.len mc] 51)).setCell ⟨X, 2, none⟩ (.slice (some ⟨E, 0, none⟩) 1 1) = w9 at *
     clear d0 d1
     go_meet
     have LW := bind2 (h := fun n a => (([] : List ByteArray), oneN a, n)) HB (a := num) (b := (m0, m1, m2, m3)) HQ.out HQ2.out
     refine ⟨rfl, hide ⟨[], oneN (m0, m1, m2, m3), num, none, some ⟨E, 0, none⟩, 0, 1, hide (by rw [← LW.1]; exact H9.out), B9, X9, hide (Sw.nil _ _), hide (N9.out.up (fun x hx => ⟨hx.1, by have := Y9.out; have := AZ.out; have := hx.2.1; omega, hx.2.2⟩)), G9, hide LW.2⟩⟩
    ·
     have HB : bodyS ts s 10 (k + 1) = (countedS ts s (k + 1)).bind fun n k1 => (termsS ts s bEq k1).bind fun a k2 => .ok (([], a, n), k2) := by
      unfold bodyS
      rw [if_neg (by decide), if_neg (by decide), if_neg (by decide), if_neg (by decide), if_neg (by decide), if_neg (by decide), if_neg (by decide), if_pos (by decide)]
     have C := hide (counted_any H5.out)
     obtain ⟨r1, hr1⟩ : ∃ r1, countedS ts s (k + 1) = r1 := ⟨_, rfl⟩
     have C : Hid (Calls Try.prog 58 #[.pointer (some ⟨pb, 0, none⟩)] w5 (NOut w5 rb pb v ts s 0 r1)) := by rw [← hr1]; exact C
     rw [hr1] at HB
     clear hr1
     go_wp2_with fail
     refine C.out.mono ?_
     rintro e w6 ⟨⟨num, rfl, hq⟩, h6, g6⟩
     have HQ := hide hq
     have H6 := hide h6
     have B6 := hide (g6.blkS (by have := XL.out; rintro (e | e) <;> omega) B5.out)
     have X6 := hide (g6.blkS (by have := XL.out; rintro (e | e) <;> omega) X5.out)
     have G6 := hide (G5.out.trans g6)
     have SZ6 : Hid (X < w6.heap.size) := hide (olt X6.out)
     clear h6 g6 hq C H5 B5 X5 G5
     have d0 := blk_cell X6.out 3
     have d1 := blk_free X6.out 3
     have GS := Chg.set w6 X 3 (.int .i64 num)
     have X7 := hide (blk_set X6.out 3 (.int .i64 num))
     simp only [gets] at d0
     simp only [List.setIfInBounds_toArray, List.set_cons_zero, List.set_cons_succ] at X7
     have H7 := hide (H6.out.chg GS (fun x hx e => by have := XL.out; omega))
     have B7 := hide (GS.blkS (by have := XL.out; omega) B6.out)
     have G7 := hide (chg_fresh G6.out GS (by have := XL.out; omega))
     have Y7 := hide GS.size
     clear GS
     go_wp2_with fail
     generalize w6.setCell ⟨X, 3, none⟩ (.int .i64 num) = w7 at *
     clear d0 d1
     have SZ7 : Hid (X < w7.heap.size) := hide (olt X7.out)
     have C2 := hide (terms_any bEq H7.out)
     go_wp2_with fail
     refine C2.out.mono ?_
     rintro e w8 ⟨⟨u, nn, rfl, hm, hq2⟩, h8, g8⟩
     obtain ⟨a2, c2, rfl, _⟩ := id hm
     have HQ2 := hide hq2
     have H8 := hide h8
     have B8 := hide (g8.blkS (by have := XL.out; rintro (e | e) <;> omega) B7.out)
     have X8 := hide (g8.blkS (by have := XL.out; rintro (e | e) <;> omega) X7.out)
     have G8 := hide (G7.out.trans g8)
     have SZ8 : Hid (X < w8.heap.size) := hide (olt X8.out)
     have N8 : Hid (Ts w8 (fun x => w.heap.size ≤ x ∧ x < w8.heap.size ∧ x ≠ A ∧ x ≠ X) (.slice a2 nn.len c2) nn) := hide (hm.up (fun x hx => ⟨by have := XL.out; have := SZ7.out; omega, hx.2, by have := XL.out; have := SZ7.out; omega, by have := SZ7.out; omega⟩))
     clear h8 g8 hm hq2 C2 H7 B7 X7 G7 
     have d0 := blk_cell X8.out 2
     have d1 := blk_free X8.out 2
     have GS := Chg.set w8 X 2 (.slice a2 nn.len c2)
     have X9 := hide (blk_set X8.out 2 (.slice a2 nn.len c2))
     simp only [gets] at d0
     simp only [List.setIfInBounds_toArray, List.set_cons_zero, List.set_cons_succ] at X9
     have H9 := hide (H8.out.chg GS (fun x hx e => by have := XL.out; omega))
     have B9 := hide (GS.blkS (by have := XL.out; omega) B8.out)
     have G9 := hide (chg_fresh G8.out GS (by have := XL.out; omega))
     have Y9 := hide GS.size
     have N9 := hide (N8.out.chg GS (fun x hx e => hx.2.2.2 e))
     clear GS
     go_wp2_with fail
     generalize w8.setCell ⟨X, 2, none⟩ (.slice a2 nn.len c2) = w9 at *
     clear d0 d1
     go_meet
     have LW := bind2 (h := fun n a => (([] : List ByteArray), a, n)) HB (a := num) (b := nn) HQ.out HQ2.out
     refine ⟨rfl, hide ⟨[], nn, num, none, a2, 0, c2, hide (by rw [← LW.1]; exact H9.out), B9, X9, hide (Sw.nil _ _), hide (N9.out.up (fun x hx => ⟨hx.1, by have := Y9.out; have := hx.2.1; omega, hx.2.2⟩)), G9, hide LW.2⟩⟩
    ·
     have HB0 : bodyS ts s 11 (k + 1) = (tokS ts s 2 (k + 1)).bind fun t k1 => .ok (([], .nil, numV t), k1) := by
      unfold bodyS
      rw [if_neg (by decide), if_neg (by decide), if_neg (by decide), if_neg (by decide), if_neg (by decide), if_neg (by decide), if_neg (by decide), if_neg (by decide), if_neg (by decide)]
     have HB : bodyS ts s 11 (k + 1) = (numS ts s (k + 1)).bind fun n k1 => .ok (([], .nil, n), k1) := by
      rw [HB0]
      unfold numS
      cases tokS ts s 2 (k + 1) <;> rfl
     clear HB0
     have C := hide (number_any H5.out)
     obtain ⟨r1, hr1⟩ : ∃ r1, numS ts s (k + 1) = r1 := ⟨_, rfl⟩
     have C : Hid (Calls Try.prog 59 #[.pointer (some ⟨pb, 0, none⟩)] w5 (NOut w5 rb pb v ts s 0 r1)) := by rw [← hr1]; exact C
     rw [hr1] at HB
     clear hr1
     go_wp2_with fail
     refine C.out.mono ?_
     rintro e w6 ⟨⟨num, rfl, hq⟩, h6, g6⟩
     have HQ := hide hq
     have H6 := hide h6
     have B6 := hide (g6.blkS (by have := XL.out; rintro (e | e) <;> omega) B5.out)
     have X6 := hide (g6.blkS (by have := XL.out; rintro (e | e) <;> omega) X5.out)
     have G6 := hide (G5.out.trans g6)
     have SZ6 : Hid (X < w6.heap.size) := hide (olt X6.out)
     clear h6 g6 hq C H5 B5 X5 G5
     have d0 := blk_cell X6.out 3
     have d1 := blk_free X6.out 3
     have GS := Chg.set w6 X 3 (.int .i64 num)
     have X7 := hide (blk_set X6.out 3 (.int .i64 num))
     simp only [gets] at d0
     simp only [List.setIfInBounds_toArray, List.set_cons_zero, List.set_cons_succ] at X7
     have H7 := hide (H6.out.chg GS (fun x hx e => by have := XL.out; omega))
     have B7 := hide (GS.blkS (by have := XL.out; omega) B6.out)
     have G7 := hide (chg_fresh G6.out GS (by have := XL.out; omega))
     have Y7 := hide GS.size
     clear GS
     go_wp2_with fail
     generalize w6.setCell ⟨X, 3, none⟩ (.int .i64 num) = w7 at *
     clear d0 d1
     have SZ7 : Hid (X < w7.heap.size) := hide (olt X7.out)
     go_meet
     have LW := bind1 (h := fun n => (([] : List ByteArray), Ns.nil, n)) HB (a := num) HQ.out
     refine ⟨rfl, hide ⟨[], Ns.nil, num, none, none, 0, 0, hide (by rw [← LW.1]; exact H7.out), B7, X7, hide (Sw.nil _ _), hide (Ts.nil _ _), G7, hide LW.2⟩⟩
    ·
     have HB : bodyS ts s 12 (k + 1) = (tokS ts s 1 (k + 1)).bind fun t k1 => .ok (([t.2.1], .nil, 0), k1) := by
      unfold bodyS
      rw [if_neg (by decide), if_neg (by decide), if_neg (by decide), if_neg (by decide), if_neg (by decide), if_neg (by decide), if_neg (by decide), if_neg (by decide), if_pos (by decide)]
     have C := hide (word_any H5.out)
     have C : Hid (Calls Try.prog 57 #[.pointer (some ⟨pb, 0, none⟩)] w5 fun e w' => e = .returned (.string (tokOf (tokS ts s 1 (k + 1))).2.1) ∧ PS w' rb pb v ts s 0 (tokS ts s 1 (k + 1)).st ∧ Chg (Pw rb pb) w5 w') := C
     generalize tokS ts s 1 (k + 1) = r1 at *
     obtain ⟨x1, hx1⟩ : ∃ x1, (tokOf r1).2.1 = x1 := ⟨_, rfl⟩
     rw [hx1] at C
     have HX1 := hide hx1
     clear hx1
     go_wp2_with fail
     refine C.out.mono ?_
     rintro e w6 ⟨rfl, h6, g6⟩
     have H6 := hide h6
     have B6 := hide (g6.blkS (by have := XL.out; rintro (e | e) <;> omega) B5.out)
     have X6 := hide (g6.blkS (by have := XL.out; rintro (e | e) <;> omega) X5.out)
     have G6 := hide (G5.out.trans g6)
     have SZ6 : Hid (X < w6.heap.size) := hide (olt X6.out)
     clear h6 g6 C H5 B5 X5 G5
     have GN := al w6 (.cells #[.string x1] 9)
     have BN := blk_new w6 (.cells #[.string x1] 9)
     have H7 := hide (H6.out.chg GN (fun _ _ h => h))
     have B7 := hide (GN.blk B6.out)
     have X7 := hide (GN.blk X6.out)
     have G7 := hide (G6.out.trans GN.none)
     have S7 := hide (sw_one (X := fun x => w.heap.size ≤ x ∧ x < w6.heap.size + 1 ∧ x ≠ A ∧ x ≠ X) BN ⟨by have := XL.out; have := SZ6.out; omega, by omega, by have := XL.out; have := SZ6.out; omega, by have := SZ6.out; omega⟩)
     have AZ := hide (al_sz w6 (.cells #[.string x1] 9))
     obtain ⟨E, hE⟩ : ∃ E, w6.heap.size = E := ⟨_, rfl⟩
     rw [hE] at S7 AZ
     clear GN BN H6 B6 X6 G6
     have d0 := blk_cell X7.out 1
     have d1 := blk_free X7.out 1
     have GS := Chg.set (w6.alloc (.cells #[.string x1] 9)) X 1 (.slice (some ⟨E, 0, none⟩) 1 1)
     have X8 := hide (blk_set X7.out 1 (.slice (some ⟨E, 0, none⟩) 1 1))
     simp only [gets] at d0
     simp only [List.setIfInBounds_toArray, List.set_cons_zero, List.set_cons_succ] at X8
     have H8 := hide (H7.out.chg GS (fun x hx e => by have := XL.out; omega))
     have B8 := hide (GS.blkS (by have := XL.out; omega) B7.out)
     have G8 := hide (chg_fresh G7.out GS (by have := XL.out; omega))
     have Y8 := hide GS.size
     have S8 := hide (S7.out.chg GS (fun x hx e => hx.2.2.2 e))
     clear GS
     go_wp2_with fail
     generalize (w6.alloc (.cells #[.string x1] 9)).setCell ⟨X, 1, none⟩ (.slice (some ⟨E, 0, none⟩) 1 1) = w8 at *
     clear d0 d1
     go_meet
     have LW0 := bind1 (h := fun t : Tok => (([t.2.1] : List ByteArray), Ns.nil, (0 : Int))) HB (a := tokOf r1) tok_ok
     have LW : r1.st = (bodyS ts s 12 (k + 1)).st ∧ ∀ q, bodyS ts s 12 (k + 1) = .ok q → (([x1] : List ByteArray), Ns.nil, (0 : Int)) = q.1 := ⟨LW0.1, fun q hq => by rw [← HX1.out]; exact LW0.2 q hq⟩
     refine ⟨rfl, hide ⟨[x1], Ns.nil, 0, some ⟨E, 0, none⟩, none, 1, 0, hide (by rw [← LW.1]; exact H8.out), B8, X8, hide (S8.out.up (fun x hx => ⟨hx.1, by have := Y8.out; have := AZ.out; have := hx.2.1; omega, hx.2.2⟩)), hide (Ts.nil _ _), G8, hide LW.2⟩⟩
   case rest =>
    obtain ⟨rfl, hM⟩ := hcut
    clear H5 B5 X5 G5 SZ5 p0
    generalize wc = w6 at *
    obtain ⟨l, n, num, a1, a2, c1, c2, H6, B6, X6, S6, N6, G6, Q6⟩ := hM.out
    clear hM
    generalize bodyS ts s kd (k + 1) = r at *
    have MU := hide (must_any bSemi H6.out)
    have LAW : Hid ((r.st.then (mustS ts s bSemi)) = (itemS ts s k).st ∧ ∀ q, itemS ts s k = .ok q → ((kd, l, n, num, (t2 : Int)) : It) = q.1) := hide (by
     rw [HI.out]
     have hq := Q6.out
     cases r with
     | error x => exact ⟨rfl, fun q hq => by cases hq⟩
     | ok p =>
       have e := hq p rfl
       simp only [Rz.st, St.then, Rz.bind]
       cases mustS ts s bSemi p.2 with
       | error x => exact ⟨rfl, fun q hq => by cases hq⟩
       | ok k2 => exact ⟨rfl, fun q hq => by cases hq; rw [← e]⟩)
    rw [LAW.out.1] at MU
    go_wp2_with fail
    refine MU.out.mono ?_
    rintro e w7 ⟨rfl, h7, g7⟩
    have H7 := hide h7
    have B7 := hide (g7.blkS (by have := XL.out; rintro (e | e) <;> omega) B6.out)
    have X7 := hide (g7.blkS (by have := XL.out; rintro (e | e) <;> omega) X6.out)
    have G7 := hide (G6.out.trans g7)
    have S7 := hide (S6.out.chg g7 (fun x hx e => by have := hx.1; have := XL.out; rcases e with e | e <;> omega))
    have N7 := hide (N6.out.chg g7 (fun x hx e => by have := hx.1; have := XL.out; rcases e with e | e <;> omega))
    have SZ7 := hide g7.size
    clear h7 g7 MU
    have z0 := blk_cell X7.out 0
    have z1 := blk_cell X7.out 1
    have z2 := blk_cell X7.out 2
    have z3 := blk_cell X7.out 3
    have z4 := blk_cell X7.out 4
    simp only [gets] at z0 z1 z2 z3 z4
    have b0 := blk_cell B7.out 0
    have f0 := blk_free B7.out 0
    have b1 := blk_cell B7.out 1
    have f1 := blk_free B7.out 1
    have b2 := blk_cell B7.out 2
    have f2 := blk_free B7.out 2
    have b3 := blk_cell B7.out 3
    have f3 := blk_free B7.out 3
    have b4 := blk_cell B7.out 4
    have f4 := blk_free B7.out 4
    simp only [gets] at b0 b1 b2 b3 b4
    have NS : Hid ((((((w7.setCell ⟨A, 0, none⟩ (.int .i64 kd)).setCell ⟨A, 1, none⟩ (.slice a1 l.length c1)).setCell ⟨A, 2, none⟩ (.slice a2 n.len c2)).setCell ⟨A, 3, none⟩ (.int .i64 num)).setCell ⟨A, 4, none⟩ (.int .i64 (t2 : Int))).heap[A]? = some (.cells #[.int .i64 kd, .slice a1 l.length c1, .slice a2 n.len c2, .int .i64 num, .int .i64 (t2 : Int)] 46) ∧ Chg (fun x => x = A) w7 (((((w7.setCell ⟨A, 0, none⟩ (.int .i64 kd)).setCell ⟨A, 1, none⟩ (.slice a1 l.length c1)).setCell ⟨A, 2, none⟩ (.slice a2 n.len c2)).setCell ⟨A, 3, none⟩ (.int .i64 num)).setCell ⟨A, 4, none⟩ (.int .i64 (t2 : Int)))) := hide ⟨(blk_set (blk_set (blk_set (blk_set (blk_set B7.out 0 (.int .i64 kd)) 1 (.slice a1 l.length c1)) 2 (.slice a2 n.len c2)) 3 (.int .i64 num)) 4 (.int .i64 (t2 : Int))), (((((Chg.set w7 A 0 (.int .i64 kd)).trans (Chg.set (w7.setCell ⟨A, 0, none⟩ (.int .i64 kd)) A 1 (.slice a1 l.length c1))).trans (Chg.set ((w7.setCell ⟨A, 0, none⟩ (.int .i64 kd)).setCell ⟨A, 1, none⟩ (.slice a1 l.length c1)) A 2 (.slice a2 n.len c2))).trans (Chg.set (((w7.setCell ⟨A, 0, none⟩ (.int .i64 kd)).setCell ⟨A, 1, none⟩ (.slice a1 l.length c1)).setCell ⟨A, 2, none⟩ (.slice a2 n.len c2)) A 3 (.int .i64 num))).trans (Chg.set ((((w7.setCell ⟨A, 0, none⟩ (.int .i64 kd)).setCell ⟨A, 1, none⟩ (.slice a1 l.length c1)).setCell ⟨A, 2, none⟩ (.slice a2 n.len c2)).setCell ⟨A, 3, none⟩ (.int .i64 num)) A 4 (.int .i64 (t2 : Int))))⟩
    have FS := hide (H7.out.chg NS.out.2 (fun x hx e => by have h1 := XL.out; omega))
    have CS := hide (chg_fresh G7.out NS.out.2 (by have h1 := XL.out; omega))
    go_wp2_with fail
    generalize (((((w7.setCell ⟨A, 0, none⟩ (.int .i64 kd)).setCell ⟨A, 1, none⟩ (.slice a1 l.length c1)).setCell ⟨A, 2, none⟩ (.slice a2 n.len c2)).setCell ⟨A, 3, none⟩ (.int .i64 num)).setCell ⟨A, 4, none⟩ (.int .i64 (t2 : Int))) = wF at *
    have r0 := blk_cell NS.out.1 0
    have r1 := blk_cell NS.out.1 1
    have r2 := blk_cell NS.out.1 2
    have r3 := blk_cell NS.out.1 3
    have r4 := blk_cell NS.out.1 4
    refine bodyPost_ret (v := .agg #[.int .i64 kd, .slice a1 l.length c1, .slice a2 n.len c2, .int .i64 num, .int .i64 (t2 : Int)]) (by simp [results, Try.results34, go_sem, r0, r1, r2, r3, r4]) rfl ?_
    have S8 := S7.out.chg NS.out.2 (fun x hx e => hx.2.2.1 e)
    have N8 := N7.out.chg NS.out.2 (fun x hx e => hx.2.2.1 e)
    exact ⟨⟨_, ((kd, l, n, num, (t2 : Int)) : It), rfl, ⟨_, _, rfl, S8.up (fun x hx => ⟨hx.1, by have h1 := NS.out.2.size; have h2 := SZ7.out; omega⟩), N8.up (fun x hx => ⟨hx.1, by have h1 := NS.out.2.size; have h2 := SZ7.out; omega⟩)⟩, LAW.out.2⟩, FS.out, CS.out⟩
end Go.Proofs.Ytboeeaekhijboaa
