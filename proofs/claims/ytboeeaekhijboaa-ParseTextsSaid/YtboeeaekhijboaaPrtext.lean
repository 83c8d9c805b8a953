/- The document's parser: item, whatever its kind. The document's Text: the items of a text. -/
import Derived.Test.YtboeeaekhijboaaPritemT
import Derived.Test.YtboeeaekhijboaaPritemU
import Derived.Test.YtboeeaekhijboaaPritemW
import Derived.Test.YtboeeaekhijboaaPritemL
import Derived.Test.YtboeeaekhijboaaPritemN
import Derived.Test.YtboeeaekhijboaaShort
import Derived.Test.YtboeeaekhijboaaPrfault
import Derived.Test.YtboeeaekhijboaaPparsed
import Derived.Test.YtboeeaekhijboaaWalkSplits
import Derived.Deep.LoopGhost
namespace Go.Proofs.Ytboeeaekhijboaa
open Go.RowKit
set_option linter.unusedVariables false

theorem ritem_any {tb : Nat} {v : Value} {ts : List Tok} {s : ByteArray} {k : Nat} {w : World} (hnum : ∀ t ∈ ts, t.1 = 2 → numB t.2.1 = true) (hkl : k < ts.length) (h : RS w tb v ts s (.ok k)) :
  Calls Try.prog 37 #[.pointer (some ⟨tb, 0, none⟩)] w (RIOut w tb v ts s (itemS ts s k)) := by
 by_cases h1 : (tokAt ts s k 0).1 = 1
 ·
  by_cases hn : 8 ≤ kindOf (tokAt ts s k 0).2.1 ∧ kindOf (tokAt ts s k 0).2.1 ≤ 11
  ·
   exact ritem_n hnum hkl ⟨h1, hn⟩ h
  ·
   by_cases hl : kindOf (tokAt ts s k 0).2.1 = 1 ∨ kindOf (tokAt ts s k 0).2.1 = 6
   ·
    exact ritem_l hnum hkl ⟨h1, hl⟩ h
   ·
    by_cases ht : kindOf (tokAt ts s k 0).2.1 = 2 ∨ kindOf (tokAt ts s k 0).2.1 = 3
    ·
     exact ritem_t hnum hkl ⟨h1, ht⟩ h
    ·
     by_cases hu : kindOf (tokAt ts s k 0).2.1 = 4 ∨ kindOf (tokAt ts s k 0).2.1 = 5
     ·
      exact ritem_u hnum hkl ⟨h1, hu⟩ h
     ·
      exact ritem_w hnum hkl (fun _ => by have := kind_bd (tokAt ts s k 0).2.1; omega) h
 ·
  exact ritem_w hnum hkl (fun e => absurd e h1) h
end Go.Proofs.Ytboeeaekhijboaa
namespace Go.Proofs.Ytboeeaekhijboaa
open Go.RowKit
set_option linter.unusedVariables false
set_option linter.unusedSimpArgs false

theorem iw_ownE {w : World} {base : Nat} {E : TypeId} {v : Value} {l : List It} {us : List Iv} (h : w.ownsRow base E 5 v us.length (cellsI us)) (hs : Same2 w base v l us) : Iw w (fun x => base ≤ x ∧ x < w.heap.size) v l := by
 have hl := hs.1
 obtain ⟨h1, h2⟩ := id h
 rcases h2 with ⟨rfl, h3⟩ | ⟨g, cap, cur, rfl, h3⟩
 ·
  have : l = [] := List.eq_nil_of_length_eq_zero (by omega)
  subst this
  exact ⟨none, 0, rfl, Or.inl rfl⟩
 ·
  refine ⟨_, cap, by rw [← hl], Or.inr ⟨g, 0, rfl, World.ownsRow.lt h g rfl, fun i hi => ?_⟩⟩
  have hi2 : i < us.length := by omega
  obtain ⟨a, b, c, d, f⟩ := cellsI_get us i hi2
  have hc := World.ownsRow.cells h (g := g) rfl
  have ha := hc _ _ a
  have hb := hc _ _ b
  have hcc := hc _ _ c
  have hd := hc _ _ d
  have hf := hc _ _ f
  rw [add_at] at ha hb hcc hd hf
  rw [Nat.zero_add]
  exact ⟨us[i], (hs.2 i hi hi2).up (fun x hx => ⟨hx.1, hx.2.1⟩), ha, hb, hcc, hd, hf⟩
theorem iacc_snocE {w : World} {base : Nat} {E : TypeId} {v : Value} {us : List Iv} {p : Iv} (h : w.ownsRow base E 5 v (us.length + 1) (cellsI us ++ [.int .i64 p.1, p.2.1, p.2.2.1, .int .i64 p.2.2.2.1, .int .i64 p.2.2.2.2])) : w.ownsRow base E 5 v (us ++ [p]).length (cellsI (us ++ [p])) := by
 rw [List.length_append, cellsI_app]
 exact h
/-- what the loop over items keeps -/
def RLInv (w wr : World) (tb : Nat) (v : Value) (ts : List Tok) (s : ByteArray) (R : Rz (List It)) (u : Value) (g : Nat) : Prop :=
 ∃ (st : St) (l : List It) (us : List Iv), Hid (RS wr tb v ts s st) ∧ Hid (wr.ownsRow w.heap.size 42 5 u us.length (cellsI us)) ∧ Hid (Same2 wr w.heap.size u l us) ∧ Hid (Chg (fun x => x = tb) w wr) ∧
  Hid ((∃ k n, st = .ok k ∧ R = itemsS ts s n l k ∧ n + l.length = 1000 ∧ g = n + 1) ∨ (∃ x, st = .error x ∧ R = .error x ∧ g = 0)) ∧ Hid (l.length ≤ 1000)
theorem info42 : (Try.prog.info? 42).map (fun i => (i.zero, i.size, i.bytes)) = some (some (.agg #[.int .i64 0, .slice none 0 0, .slice none 0 0, .int .i64 0, .int .i64 0]), 5, 72) := by kernel_rfl

set_option maxRecDepth 100000 in
set_option maxHeartbeats 32000000 in
theorem rtext_any (s : ByteArray) (hs : s.size ≤ 20000) (w : World) :
  Calls Try.prog 9 #[.string s] w fun e w' => (∃ u, e = .returned (.tuple #[u, f4V (resS [] s (itemsS (lexT s) s 1000 [] 0)).1]) ∧ Iw w' (fun x => w.heap.size ≤ x ∧ x < w'.heap.size) u (resS [] s (itemsS (lexT s) s 1000 [] 0)).2) ∧ Chg (fun _ => False) w w' := by
 obtain ⟨i0, hi0, hz0, hz1, hz2⟩ := info_parts info42
 obtain ⟨RR, hRR⟩ : ∃ RR, resS [] s (itemsS (lexT s) s 1000 [] 0) = RR := ⟨_, rfl⟩
 rw [hRR]
 have HRR := hide hRR
 clear hRR
 have GA := al w (.cells #[.int .i64 0, .int .i64 0, .int .i64 0, .string ⟨#[]⟩] 33)
 have BA := blk_new w (.cells #[.int .i64 0, .int .i64 0, .int .i64 0, .string ⟨#[]⟩] 33)
 obtain ⟨B, hB⟩ : ∃ B, w.heap.size = B := ⟨_, rfl⟩
 rw [hB] at BA
 have GB0 := hide GA
 have B1 := hide BA
 have HB : Hid (w.heap.size = B) := hide hB
 obtain ⟨F, hF⟩ : ∃ F, F = flt s (lexG s (s.size + 1) 0 false) := ⟨_, rfl⟩
 have SP := hide (fun w => refSplit_told s hs w F hF)
 have HF := hide hF
 have HS := hide hs
 clear hF hs GA BA
 obtain ⟨f0, f1, f2, f3⟩ := F
 dsimp only at SP
 go_enter Try.func9, Try.ntmps9
 go_wp2_with fail
 try rw [hB]
 clear hB
 generalize w.alloc (.cells #[.int .i64 0, .int .i64 0, .int .i64 0, .string ⟨#[]⟩] 33) = w1 at *
 refine (SP.out w1).mono ?_
 rintro e w2 ⟨⟨tv, rfl, ht⟩, g2⟩
 have C2 := Chg.ofB g2
 have GD := al w2 (.cells #[.int .i64 f0, .int .i64 f1, .int .i64 f2, .string f3] 33)
 have D3 := hide (blk_new w2 (.cells #[.int .i64 f0, .int .i64 f1, .int .i64 f2, .string f3] 33))
 have B3 := hide (GD.blk (C2.blk B1.out))
 have G3 := hide ((GB0.out.trans C2).trans GD)
 have T2 := hide ht
 obtain ⟨D, hD⟩ : ∃ D, w2.heap.size = D := ⟨_, rfl⟩
 have DL : Hid (B < D ∧ w.heap.size = B) := hide ⟨by have := olt (C2.blk B1.out); omega, HB.out⟩
 rw [hD] at D3
 have GD2 := hide GD
 clear g2 C2 ht GD SP
 cases hl : lexF s with
 | some x =>
   obtain ⟨hf, htk⟩ := flt_some hl
   have h0 : f0 = x.1 := by have := HF.out; rw [hf] at this; exact congrArg Prod.fst this
   have hc : x.1 = 2 ∨ x.1 = 3 := lexG_fault s _ _ _ x hl
   have e0 : (f0 == 0) = false := by rw [h0]; rcases hc with h | h <;> rw [h] <;> rfl
   have e1 : (f0 != 0) = true := by rw [h0]; rcases hc with h | h <;> rw [h] <;> rfl
   have HR : Hid (RR = ((f0, f1, f2, f3), [])) := hide (by rw [← HRR.out]; unfold resS; rw [hl]; dsimp only; rw [← hf, ← HF.out])
   have q0 := blk_cell D3.out 0
   have q1 := blk_cell D3.out 1
   have q2 := blk_cell D3.out 2
   have q3 := blk_cell D3.out 3
   simp only [gets] at q0 q1 q2 q3
   clear hf htk h0 hc HF T2
   go_wp2_with fail
   clear hD
   generalize w2.alloc (.cells #[.int .i64 f0, .int .i64 f1, .int .i64 f2, .string f3] 33) = w3 at *
   refine wp_region_held_drew (S := (fun w' => w'.cell? ⟨D, 0, none⟩ = some (.int .i64 f0) ∧ w'.cell? ⟨D, 1, none⟩ = some (.int .i64 f1) ∧ w'.cell? ⟨D, 2, none⟩ = some (.int .i64 f2) ∧ w'.cell? ⟨D, 3, none⟩ = some (.string f3))) (by kernel_rfl) (by go_keep) (fun hHeld => ?_)
   first
    | (refine tku 0 ?_)
    | (refine tkl 0 ?_ ?_ ?_
       rotate_left
       (intro w hSw
        (try dsimp only at hSw)
        (go_simp <;> with_reducible rfl)))
   try simp only [Act.put, puts]
   first
    | (refine tku 1 ?_)
    | (refine tkl 1 ?_ ?_ ?_
       rotate_left
       (intro w hSw
        (try dsimp only at hSw)
        (go_simp <;> with_reducible rfl)))
   try simp only [Act.put, puts]
   refine rd1 2 (fun K hK => ?_)
   have b0 := blk_cell B3.out 0
   have ff0 := blk_free B3.out 0
   have b1 := blk_cell B3.out 1
   have ff1 := blk_free B3.out 1
   have b2 := blk_cell B3.out 2
   have ff2 := blk_free B3.out 2
   have b3 := blk_cell B3.out 3
   have ff3 := blk_free B3.out 3
   go_simp
   have NB : Hid (((((w3.setCell ⟨B, 0, none⟩ (.int .i64 f0)).setCell ⟨B, 1, none⟩ (.int .i64 f1)).setCell ⟨B, 2, none⟩ (.int .i64 f2)).setCell ⟨B, 3, none⟩ (.string f3)).heap[B]? = some (.cells #[.int .i64 f0, .int .i64 f1, .int .i64 f2, .string f3] 33) ∧ Chg (fun x => x = B) w3 ((((w3.setCell ⟨B, 0, none⟩ (.int .i64 f0)).setCell ⟨B, 1, none⟩ (.int .i64 f1)).setCell ⟨B, 2, none⟩ (.int .i64 f2)).setCell ⟨B, 3, none⟩ (.string f3))) := hide ⟨(blk_set (blk_set (blk_set (blk_set B3.out 0 (.int .i64 f0)) 1 (.int .i64 f1)) 2 (.int .i64 f2)) 3 (.string f3)), ((((Chg.set w3 B 0 (.int .i64 f0)).trans (Chg.set (w3.setCell ⟨B, 0, none⟩ (.int .i64 f0)) B 1 (.int .i64 f1))).trans (Chg.set ((w3.setCell ⟨B, 0, none⟩ (.int .i64 f0)).setCell ⟨B, 1, none⟩ (.int .i64 f1)) B 2 (.int .i64 f2))).trans (Chg.set (((w3.setCell ⟨B, 0, none⟩ (.int .i64 f0)).setCell ⟨B, 1, none⟩ (.int .i64 f1)).setCell ⟨B, 2, none⟩ (.int .i64 f2)) B 3 (.string f3)))⟩
   have uu0 := NB.out.2.cell (by have := DL.out; omega) q0
   have uu1 := NB.out.2.cell (by have := DL.out; omega) q1
   have uu2 := NB.out.2.cell (by have := DL.out; omega) q2
   have uu3 := NB.out.2.cell (by have := DL.out; omega) q3
   refine hK.out _ _ ⟨drc uu0, drc uu1, drc uu2, drc uu3⟩ (fun hHeld => ?_)
   clear hK K
   try simp only [Act.put, puts]
   refine wpAnyH_done (by kernel_rfl) ?_ _
   go_wp2_with fail
   have GF : Hid (Chg (fun _ => False) w ((((w3.setCell ⟨B, 0, none⟩ (.int .i64 f0)).setCell ⟨B, 1, none⟩ (.int .i64 f1)).setCell ⟨B, 2, none⟩ (.int .i64 f2)).setCell ⟨B, 3, none⟩ (.string f3))) := hide ((((G3.out.mono (T := fun x => x = B) (fun x _ h => h.elim)).trans NB.out.2)).mono (fun x hx e => by have := DL.out; omega))
   generalize ((((w3.setCell ⟨B, 0, none⟩ (.int .i64 f0)).setCell ⟨B, 1, none⟩ (.int .i64 f1)).setCell ⟨B, 2, none⟩ (.int .i64 f2)).setCell ⟨B, 3, none⟩ (.string f3)) = wF at *
   have r0 := blk_cell NB.out.1 0
   have r1 := blk_cell NB.out.1 1
   have r2 := blk_cell NB.out.1 2
   have r3 := blk_cell NB.out.1 3
   refine bodyPost_ret (v := .tuple #[.slice none 0 0, f4V (f0, f1, f2, f3)]) (by simp [results, Try.results9, go_sem, r0, r1, r2, r3]) rfl ?_
   exact ⟨⟨_, by rw [HR.out], by rw [HR.out]; exact ⟨none, 0, rfl, Or.inl rfl⟩⟩, GF.out.drew⟩
 | none =>
   obtain ⟨hf, htk⟩ := flt_none hl
   have hf' := HF.out.trans hf
   injection hf' with ha hb'
   injection hb' with hb' hc'
   injection hc' with hc' hd'
   subst ha hb' hc' hd'
   have T2 := hide (htk ▸ T2.out)
   have HR : Hid (RR = match endS (lexT s) (itemsS (lexT s) s 1000 [] 0) with | .error e => (fl4 (lexT s) s (some e), []) | .ok q => ((0, 0, 0, ⟨#[]⟩), q.1)) := hide (by rw [← HRR.out]; unfold resS; rw [hl]; dsimp only; cases endS (lexT s) (itemsS (lexT s) s 1000 [] 0) <;> rfl)
   have EV := hide (lexT_renv HS.out)
   have HAT : Hid (∀ t ∈ lexT s, t.2.2 ≤ s.size) := hide (fun t ht => (lexT_is s t ht).size.2)
   have HTX : Hid (∀ t ∈ lexT s, t.2.1.size ≤ 1000000) := hide (fun t ht => by have := (lexT_is s t ht).size.1; have := HS.out; omega)
   have HNU : Hid (∀ t ∈ lexT s, t.1 = 2 → numB t.2.1 = true) := hide (fun t ht h2 => (lexT_is s t ht).num h2)
   clear hf htk hl HF
   have TL : Hid ((lexT s).length ≤ 20000) := hide (by have := lexT_len s; have := HS.out; omega)
   have q0 := blk_cell D3.out 0
   simp only [List.getElem?_toArray, List.getElem?_cons_zero] at q0
   have T3 := hide (isToks_chg T2.out GD2.out)
   obtain ⟨R, hR⟩ : ∃ R, itemsS (lexT s) s 1000 [] 0 = R := ⟨_, rfl⟩
   rw [hR] at HR
   have ER0 := hide hR
   clear hR
   generalize lexT s = ts at *
   have GP := al (w2.alloc (.cells #[.int .i64 0, .int .i64 0, .int .i64 0, .string ⟨#[]⟩] 33)) (.cells #[tv, .string s, .int .i64 0, .int .i64 0, .int .i64 0] 88)
   have BP := blk_new (w2.alloc (.cells #[.int .i64 0, .int .i64 0, .int .i64 0, .string ⟨#[]⟩] 33)) (.cells #[tv, .string s, .int .i64 0, .int .i64 0, .int .i64 0] 88)
   obtain ⟨P, hP⟩ : ∃ P, (w2.alloc (.cells #[.int .i64 0, .int .i64 0, .int .i64 0, .string ⟨#[]⟩] 33)).heap.size = P := ⟨_, rfl⟩
   have hP2 : w2.heap.size + 1 = P := by rw [← hP, al_sz]
   rw [hP] at BP
   have R4 : RS ((w2.alloc (.cells #[.int .i64 0, .int .i64 0, .int .i64 0, .string ⟨#[]⟩] 33)).alloc (.cells #[tv, .string s, .int .i64 0, .int .i64 0, .int .i64 0] 88)) P tv ts s (.ok 0) := ⟨BP, by
    obtain ⟨ta, tc, et, h⟩ := T3.out
    refine ⟨ta, tc, et, ?_⟩
    rcases h with h | ⟨g, e1, h2, h3⟩
    ·
     exact Or.inl h
    ·
     refine Or.inr ⟨g, e1, by rw [← hP]; exact h2, fun i hi => ?_⟩
     obtain ⟨a, b, c⟩ := h3 i hi
     exact ⟨GP.cell (fun h => h) a, GP.cell (fun h => h) b, GP.cell (fun h => h) c⟩, Nat.zero_le _, EV.out, fun e he => by cases he⟩
   have R5 := hide R4
   have B5 := hide (GP.blk B3.out)
   have G5 := hide (G3.out.trans GP)
   have PL : Hid (B < P ∧ w.heap.size = B ∧ (((w2.alloc (.cells #[.int .i64 0, .int .i64 0, .int .i64 0, .string ⟨#[]⟩] 33)).alloc (.cells #[tv, .string s, .int .i64 0, .int .i64 0, .int .i64 0] 88)).heap.size = P + 1)) := hide ⟨by have := DL.out; omega, DL.out.2, by rw [al_sz, hP]⟩
   have tvx : ∃ ta tc, tv = .slice ta ts.length tc := by obtain ⟨ta, tc, et, _⟩ := T3.out; exact ⟨ta, tc, et⟩
   obtain ⟨ta, tc, rfl⟩ := tvx
   have I0 : Hid (RLInv ((w2.alloc (.cells #[.int .i64 0, .int .i64 0, .int .i64 0, .string ⟨#[]⟩] 33)).alloc (.cells #[.slice ta ts.length tc, .string s, .int .i64 0, .int .i64 0, .int .i64 0] 88)) ((w2.alloc (.cells #[.int .i64 0, .int .i64 0, .int .i64 0, .string ⟨#[]⟩] 33)).alloc (.cells #[.slice ta ts.length tc, .string s, .int .i64 0, .int .i64 0, .int .i64 0] 88)) P (.slice ta ts.length tc) ts s R (.slice none 0 0) 1001) := hide ⟨.ok 0, [], [], R5, hide (World.ownsRow_nil _ _ _ _), hide (Same2.nil _ _ _), hide (Chg.refl _ _), hide (Or.inl ⟨0, 1000, rfl, ER0.out.symm, rfl, rfl⟩), hide (Nat.zero_le _)⟩
   have BG : Hid (P < ((w2.alloc (.cells #[.int .i64 0, .int .i64 0, .int .i64 0, .string ⟨#[]⟩] 33)).alloc (.cells #[.slice ta ts.length tc, .string s, .int .i64 0, .int .i64 0, .int .i64 0] 88)).heap.size) := hide (by have := PL.out; omega)
   clear GP BP R4 R5 ER0
   go_wp2_with fail
   try rw [hD]
   try rw [hP]
   try rw [hP2]
   clear hD hP hP2
   generalize (w2.alloc (.cells #[.int .i64 0, .int .i64 0, .int .i64 0, .string ⟨#[]⟩] 33)).alloc (.cells #[.slice ta ts.length tc, .string s, .int .i64 0, .int .i64 0, .int .i64 0] 88) = w5 at *
   clear q0
   go_loopg [7] 1001 (fun g u wr => Hid (RLInv w5 wr P (.slice ta ts.length tc) ts s R u g))
   case atStart => exact I0
   case round =>
    have hI := hrel
    clear I0 hrel
    obtain ⟨st, l, us, H7, O7, M7, C7, J7, L7⟩ := hI.out
    clear hI
    have G7 : Hid (Chg (fun x => B < x) w wr) := hide ((G5.out.mono (T := fun x => B < x) (fun x _ h => h.elim)).trans (C7.out.mono (fun x _ e => by have := PL.out; omega)))
    have B7 := hide (C7.out.blkS (by have := PL.out; omega) B5.out)
    cases st with
    | error x =>
      have QF : Hid (R = .error x) := hide (by
       rcases J7.out with ⟨k, f, e0, -⟩ | ⟨y, e0, e, -⟩
       ·
        cases e0
       ·
        cases e0; exact e)
      have HX : Hid (RR = (fl4 ts s (some x), [])) := hide (by rw [HR.out, QF.out]; rfl)
      obtain ⟨e1, e2⟩ := rerr_ne (H7.out.code x rfl)
      have c3 : wr.cell? ⟨P, 3, none⟩ = some (.int .i64 x.1) := H7.out.cells.2.2.2.1
      clear J7 O7 M7 HR QF
      go_wp2_with fail
      clear c3
      refine (rfault_any HAT.out HTX.out H7.out).mono ?_
      rintro e w9 ⟨rfl, h8, g8⟩
      have B8 := hide (g8.blkS (by have := PL.out; omega) B7.out)
      have G8 := hide (G7.out.trans (g8.mono (T := fun x => B < x) (fun x _ e => by have := PL.out; omega)))
      obtain ⟨FF, hFF⟩ : ∃ FF, fl4 ts s (some x) = FF := ⟨_, rfl⟩
      rw [hFF] at HX ⊢
      obtain ⟨f0, f1, f2, f3⟩ := FF
      dsimp only
      have HR : Hid (RR = ((f0, f1, f2, f3), [])) := hide HX.out
      clear h8 g8 hFF H7 B7 G7 e1 e2
      have b0 := blk_cell B8.out 0
      have ff0 := blk_free B8.out 0
      have b1 := blk_cell B8.out 1
      have ff1 := blk_free B8.out 1
      have b2 := blk_cell B8.out 2
      have ff2 := blk_free B8.out 2
      have b3 := blk_cell B8.out 3
      have ff3 := blk_free B8.out 3
      go_wp2_with fail
      clear b0 b1 b2 b3 ff0 ff1 ff2 ff3
      have NB : Hid (((((w9.setCell ⟨B, 0, none⟩ (.int .i64 f0)).setCell ⟨B, 1, none⟩ (.int .i64 f1)).setCell ⟨B, 2, none⟩ (.int .i64 f2)).setCell ⟨B, 3, none⟩ (.string f3)).heap[B]? = some (.cells #[.int .i64 f0, .int .i64 f1, .int .i64 f2, .string f3] 33) ∧ Chg (fun x => x = B) w9 ((((w9.setCell ⟨B, 0, none⟩ (.int .i64 f0)).setCell ⟨B, 1, none⟩ (.int .i64 f1)).setCell ⟨B, 2, none⟩ (.int .i64 f2)).setCell ⟨B, 3, none⟩ (.string f3))) := hide ⟨(blk_set (blk_set (blk_set (blk_set B8.out 0 (.int .i64 f0)) 1 (.int .i64 f1)) 2 (.int .i64 f2)) 3 (.string f3)), ((((Chg.set w9 B 0 (.int .i64 f0)).trans (Chg.set (w9.setCell ⟨B, 0, none⟩ (.int .i64 f0)) B 1 (.int .i64 f1))).trans (Chg.set ((w9.setCell ⟨B, 0, none⟩ (.int .i64 f0)).setCell ⟨B, 1, none⟩ (.int .i64 f1)) B 2 (.int .i64 f2))).trans (Chg.set (((w9.setCell ⟨B, 0, none⟩ (.int .i64 f0)).setCell ⟨B, 1, none⟩ (.int .i64 f1)).setCell ⟨B, 2, none⟩ (.int .i64 f2)) B 3 (.string f3)))⟩
      have GF : Hid (Chg (fun _ => False) w ((((w9.setCell ⟨B, 0, none⟩ (.int .i64 f0)).setCell ⟨B, 1, none⟩ (.int .i64 f1)).setCell ⟨B, 2, none⟩ (.int .i64 f2)).setCell ⟨B, 3, none⟩ (.string f3))) := hide ((((G8.out.mono (T := fun x => B ≤ x) (fun x _ e => by omega)).trans (NB.out.2.mono (fun x _ h => by omega)))).mono (fun x hx e => by have := PL.out; omega))
      generalize ((((w9.setCell ⟨B, 0, none⟩ (.int .i64 f0)).setCell ⟨B, 1, none⟩ (.int .i64 f1)).setCell ⟨B, 2, none⟩ (.int .i64 f2)).setCell ⟨B, 3, none⟩ (.string f3)) = wF at *
      have r0 := blk_cell NB.out.1 0
      have r1 := blk_cell NB.out.1 1
      have r2 := blk_cell NB.out.1 2
      have r3 := blk_cell NB.out.1 3
      refine bodyPost_ret (v := .tuple #[.slice none 0 0, f4V (f0, f1, f2, f3)]) (by simp [results, Try.results9, go_sem, r0, r1, r2, r3]) rfl ?_
      exact ⟨⟨_, by rw [HR.out], by rw [HR.out]; exact ⟨none, 0, rfl, Or.inl rfl⟩⟩, GF.out⟩
    | ok k =>
      obtain ⟨n, ER, EN, EG⟩ : ∃ n, Hid (R = itemsS ts s n l k) ∧ Hid (n + l.length = 1000) ∧ Hid (gk = n + 1) := by
       rcases J7.out with ⟨k', f, e0, e, hf, hg⟩ | ⟨y, e0, e, -⟩
       ·
        cases e0; exact ⟨f, hide e, hide hf, hide hg⟩
       ·
        cases e0
      have c2 : wr.cell? ⟨P, 2, none⟩ = some (.int .i64 (k : Int)) := H7.out.cells.2.2.1
      have c3 : wr.cell? ⟨P, 3, none⟩ = some (.int .i64 0) := H7.out.cells.2.2.2.1
      have hul : us.length = l.length := M7.out.1
      have HUL := hide hul
      clear J7 hul
      by_cases hk : k < ts.length
      ·
       have qk : decide (k < ts.length) = true := by simp [hk]
       have HLT := hide hk
       obtain ⟨ua, uc, rfl⟩ : ∃ ua uc, u7 = Value.slice ua us.length uc := by
        rcases O7.out.2 with ⟨h1, h2⟩ | ⟨g, cap2, cur, h1, _⟩
        ·
         exact ⟨_, _, by rw [h1, h2]⟩
        ·
         exact ⟨_, _, h1⟩
       clear hk
       by_cases h1000 : us.length = 1000
       ·
        have e5 : ((us.length : Int) == 1000) = true := by simp; omega
        have ER2 : Hid (R = .error (2, k)) := hide (by
         rw [ER.out]
         obtain rfl : n = 0 := by have := EN.out; have := HUL.out; omega
         simp only [itemsS]; rw [if_pos HLT.out])
        have HX : Hid (RR = (fl4 ts s (some (2, k)), [])) := hide (by rw [HR.out, ER2.out]; rfl)
        have FA := hide (rfail_ok 2 (Or.inl rfl) H7.out)
        clear h1000 HR ER O7 M7
        go_wp2_with fail
        refine FA.out.mono ?_
        rintro e w8 ⟨rfl, h8, g8⟩
        clear H7 FA
        have H7 := hide h8
        have B7 := hide (g8.blkS (by have := PL.out; omega) B7.out)
        have G7 := hide (G7.out.trans (g8.mono (T := fun x => B < x) (fun x _ e => by have := PL.out; omega)))
        obtain ⟨x, hx⟩ : ∃ x : Pf, ((2 : Int), k) = x := ⟨_, rfl⟩
        rw [hx] at HX H7
        clear hx h8 g8 c2 c3
        obtain ⟨e1, e2⟩ := rerr_ne (H7.out.code x rfl)
        have c3 : w8.cell? ⟨P, 3, none⟩ = some (.int .i64 x.1) := H7.out.cells.2.2.2.1
        go_wp2_with fail
        clear c3
        refine (rfault_any HAT.out HTX.out H7.out).mono ?_
        rintro e w9 ⟨rfl, h8, g8⟩
        have B8 := hide (g8.blkS (by have := PL.out; omega) B7.out)
        have G8 := hide (G7.out.trans (g8.mono (T := fun x => B < x) (fun x _ e => by have := PL.out; omega)))
        obtain ⟨FF, hFF⟩ : ∃ FF, fl4 ts s (some x) = FF := ⟨_, rfl⟩
        rw [hFF] at HX ⊢
        obtain ⟨f0, f1, f2, f3⟩ := FF
        dsimp only
        have HR : Hid (RR = ((f0, f1, f2, f3), [])) := hide HX.out
        clear h8 g8 hFF H7 B7 G7 e1 e2
        have b0 := blk_cell B8.out 0
        have ff0 := blk_free B8.out 0
        have b1 := blk_cell B8.out 1
        have ff1 := blk_free B8.out 1
        have b2 := blk_cell B8.out 2
        have ff2 := blk_free B8.out 2
        have b3 := blk_cell B8.out 3
        have ff3 := blk_free B8.out 3
        go_wp2_with fail
        clear b0 b1 b2 b3 ff0 ff1 ff2 ff3
        have NB : Hid (((((w9.setCell ⟨B, 0, none⟩ (.int .i64 f0)).setCell ⟨B, 1, none⟩ (.int .i64 f1)).setCell ⟨B, 2, none⟩ (.int .i64 f2)).setCell ⟨B, 3, none⟩ (.string f3)).heap[B]? = some (.cells #[.int .i64 f0, .int .i64 f1, .int .i64 f2, .string f3] 33) ∧ Chg (fun x => x = B) w9 ((((w9.setCell ⟨B, 0, none⟩ (.int .i64 f0)).setCell ⟨B, 1, none⟩ (.int .i64 f1)).setCell ⟨B, 2, none⟩ (.int .i64 f2)).setCell ⟨B, 3, none⟩ (.string f3))) := hide ⟨(blk_set (blk_set (blk_set (blk_set B8.out 0 (.int .i64 f0)) 1 (.int .i64 f1)) 2 (.int .i64 f2)) 3 (.string f3)), ((((Chg.set w9 B 0 (.int .i64 f0)).trans (Chg.set (w9.setCell ⟨B, 0, none⟩ (.int .i64 f0)) B 1 (.int .i64 f1))).trans (Chg.set ((w9.setCell ⟨B, 0, none⟩ (.int .i64 f0)).setCell ⟨B, 1, none⟩ (.int .i64 f1)) B 2 (.int .i64 f2))).trans (Chg.set (((w9.setCell ⟨B, 0, none⟩ (.int .i64 f0)).setCell ⟨B, 1, none⟩ (.int .i64 f1)).setCell ⟨B, 2, none⟩ (.int .i64 f2)) B 3 (.string f3)))⟩
        have GF : Hid (Chg (fun _ => False) w ((((w9.setCell ⟨B, 0, none⟩ (.int .i64 f0)).setCell ⟨B, 1, none⟩ (.int .i64 f1)).setCell ⟨B, 2, none⟩ (.int .i64 f2)).setCell ⟨B, 3, none⟩ (.string f3))) := hide ((((G8.out.mono (T := fun x => B ≤ x) (fun x _ e => by omega)).trans (NB.out.2.mono (fun x _ h => by omega)))).mono (fun x hx e => by have := PL.out; omega))
        generalize ((((w9.setCell ⟨B, 0, none⟩ (.int .i64 f0)).setCell ⟨B, 1, none⟩ (.int .i64 f1)).setCell ⟨B, 2, none⟩ (.int .i64 f2)).setCell ⟨B, 3, none⟩ (.string f3)) = wF at *
        have r0 := blk_cell NB.out.1 0
        have r1 := blk_cell NB.out.1 1
        have r2 := blk_cell NB.out.1 2
        have r3 := blk_cell NB.out.1 3
        refine bodyPost_ret (v := .tuple #[.slice none 0 0, f4V (f0, f1, f2, f3)]) (by simp [results, Try.results9, go_sem, r0, r1, r2, r3]) rfl ?_
        exact ⟨⟨_, by rw [HR.out], by rw [HR.out]; exact ⟨none, 0, rfl, Or.inl rfl⟩⟩, GF.out⟩
       ·
        have e5 : ((us.length : Int) == 1000) = false := by simp; omega
        have hus : us.length ≤ 1000 := by have := EN.out; have := HUL.out; omega
        obtain ⟨n', rfl⟩ : ∃ n', n = n' + 1 := ⟨n - 1, by have := EN.out; have := HUL.out; omega⟩
        have ER2 : Hid (R = (itemS ts s k).bind fun x k1 => itemsS ts s n' (l ++ [x]) k1) := hide (by rw [ER.out]; simp only [itemsS]; rw [if_pos HLT.out])
        have IT := hide (ritem_any HNU.out HLT.out H7.out)
        generalize itemS ts s k = r at *
        have RL := hide (fun q (e : (Value.slice ua us.length uc).ownBlock = some q) => World.ownsRow.lt O7.out q e)
        clear h1000 ER
        go_wp2_with fail
        refine IT.out.mono ?_
        rintro e w8 ⟨⟨uv, x, rfl, ⟨u1, u2, rfl, s1, s2⟩, hq⟩, h8, g8⟩
        obtain ⟨x0, x1, x2, x3, x4⟩ := x
        obtain ⟨b1, d1, rfl, _⟩ := id s1
        obtain ⟨b2, d2, rfl, _⟩ := id s2
        dsimp only at *
        have GA := al w8 (.cells #[.int .i64 x0, .slice b1 x1.length d1, .slice b2 x2.len d2, .int .i64 x3, .int .i64 x4] 42)
        have H9 := hide (h8.chg GA (fun _ _ h => h))
        have O9 := hide (own_chgS (own_chgS O7.out g8 (fun x hx e => by have := BG.out; omega)) GA (fun _ _ h => h))
        have M9 := hide ((M7.out.chg g8 (fun x hx _ _ e => by have := BG.out; omega)).chg GA (fun _ _ _ _ h => h))
        have G9 := hide ((C7.out.trans g8).trans GA.none)
        have hz5 := g8.size
        have hz0 := C7.out.size
        have IL9 := hide ((show IL w8 (fun x => wr.heap.size ≤ x ∧ x < w8.heap.size) (x0, .slice b1 x1.length d1, .slice b2 x2.len d2, x3, x4) (x0, x1, x2, x3, x4) from ⟨rfl, s1, s2, rfl, rfl⟩).chg GA (fun _ _ h => h))
        have SN := hide (M9.out.snoc (IL9.out.up (fun x hx => ⟨by omega, by have := GA.size; omega, fun e => by have := (RL.out x e).2; omega⟩)))
        have N9 := hide (World.news_of_block (cs := #[.int .i64 x0, .slice b1 x1.length d1, .slice b2 x2.len d2, .int .i64 x3, .int .i64 x4]) (t := 42) (fr := (0, 0)) (heap_alloc_new w8 _))
        have P9 : w5.heap.size ≤ (w8.alloc (.cells #[.int .i64 x0, .slice b1 x1.length d1, .slice b2 x2.len d2, .int .i64 x3, .int .i64 x4] 42)).heap.size := by have := G9.out.size; exact this
        have HQ := hide hq
        clear h8 g8 GA hz5 hz0 s1 s2 hq IT O7 M7 IL9 M9
        go_wp2_with (at_builtin; refine wpList_append_lies _ rfl _ _ 30 rfl w5.heap.size 42 i0 (.agg #[.int .i64 0, .slice none 0 0, .slice none 0 0, .int .i64 0, .int .i64 0]) 5 72 Try.underlying30 hi0 ‹_› hz1 hz2 rfl (by decide) _ us.length (cellsI us) rfl O9.out ⟨w8.heap.size, 0, none⟩ 1 1 [.int .i64 x0, .slice b1 x1.length d1, .slice b2 x2.len d2, .int .i64 x3, .int .i64 x4] rfl rfl N9.out (by simp [Value.oneCell']) (by omega) (by simp [maxLen]; omega) (by omega) P9 (w8.heap.size + 1) (by simp) ?_; intro gg cap2 w10 hown hgrow hgat hglt)
        have g10 := own_grow_chg O9.out hgrow
        have H10 := hide (H9.out.chg g10 (fun x hx e => by have := BG.out; omega))
        have G10 : Hid (Chg (fun x => x = P) w5 w10) := hide (((G9.out.mono (T := fun x => x = P ∨ w5.heap.size ≤ x) (fun x _ h => Or.inl h)).trans (g10.mono (fun x _ h => Or.inr h))).mono (fun x hx e => by
         rcases e with e | e
         ·
          exact e
         ·
          omega))
        have O10 := hide (iacc_snocE (p := (x0, .slice b1 x1.length d1, .slice b2 x2.len d2, x3, x4)) hown)
        have M10 := hide (SN.out.grown hgrow (u' := .slice (some ⟨gg, 0, none⟩) (us.length + 1) cap2) (by rcases hgat with h | h; exact Or.inl (by have h' : (Value.slice ua us.length uc).ownBlock = some gg := h; rw [h']; rfl); exact Or.inr (by rw [h, al_sz]; rfl)))
        have I10 : Hid (∃ g', g' < gk ∧ RLInv w5 w10 P (.slice ta ts.length tc) ts s R (.slice (some ⟨gg, 0, none⟩) (us.length + 1) cap2) g') := hide (by
         have h1 := EG.out
         have h2 := EN.out
         have h3 := HUL.out
         have hp := H10.out
         have er := ER2.out
         have hq := HQ.out
         have hl1 : (l ++ [((x0, x1, x2, x3, x4) : It)]).length = l.length + 1 := by simp
         cases r with
         | error y => exact ⟨0, by omega, .error y, l ++ [(x0, x1, x2, x3, x4)], _, hide hp, O10, M10, G10, hide (Or.inr ⟨y, rfl, er, rfl⟩), hide (by omega)⟩
         | ok q =>
           have e := hq q rfl
           exact ⟨n' + 1, by omega, .ok q.2, l ++ [(x0, x1, x2, x3, x4)], _, hide hp, O10, M10, G10, hide (Or.inl ⟨q.2, n', rfl, by rw [er, e]; rfl, by omega, rfl⟩), hide (by omega)⟩)
        clear g10 H10 G10 O10 M10 SN hown hgrow hgat hglt H9 O9 G9 HQ
        go_wp2_with fail
        obtain ⟨g', hg', HI⟩ := I10.out
        have HI := hide HI
        clear I10
        go_roundg g'
        case measure => exact hg'
        case rel => exact HI
      ·
       have qk : decide (k < ts.length) = false := by simp [hk]
       have ER2 : Hid (R = .ok (l, k)) := hide (by
        rw [ER.out]
        cases n with
        | zero => simp only [itemsS]; rw [if_neg hk]
        | succ n => simp only [itemsS]; rw [if_neg hk])
       have HX : Hid (RR = ((0, 0, 0, ⟨#[]⟩), l)) := hide (by
        rw [HR.out, ER2.out]
        have : endS ts (.ok (l, k) : Rz (List It)) = .ok (l, k) := by unfold endS; simp only [Rz.bind]; rw [if_neg hk]
        rw [this])
       have W7 := hide (iw_ownE O7.out M7.out)
       obtain ⟨ua, uc, hu, _⟩ := id W7.out
       subst hu
       clear hk HR ER M7 O7 EN
       have b0 := blk_cell B7.out 0
       have ff0 := blk_free B7.out 0
       have b1 := blk_cell B7.out 1
       have ff1 := blk_free B7.out 1
       have b2 := blk_cell B7.out 2
       have ff2 := blk_free B7.out 2
       have b3 := blk_cell B7.out 3
       have ff3 := blk_free B7.out 3
       go_wp2_with fail
       clear b0 b1 b2 b3 ff0 ff1 ff2 ff3
       have NB : Hid (((((wr.setCell ⟨B, 0, none⟩ (.int .i64 0)).setCell ⟨B, 1, none⟩ (.int .i64 0)).setCell ⟨B, 2, none⟩ (.int .i64 0)).setCell ⟨B, 3, none⟩ (.string ⟨#[]⟩)).heap[B]? = some (.cells #[.int .i64 0, .int .i64 0, .int .i64 0, .string ⟨#[]⟩] 33) ∧ Chg (fun x => x = B) wr ((((wr.setCell ⟨B, 0, none⟩ (.int .i64 0)).setCell ⟨B, 1, none⟩ (.int .i64 0)).setCell ⟨B, 2, none⟩ (.int .i64 0)).setCell ⟨B, 3, none⟩ (.string ⟨#[]⟩))) := hide ⟨(blk_set (blk_set (blk_set (blk_set B7.out 0 (.int .i64 0)) 1 (.int .i64 0)) 2 (.int .i64 0)) 3 (.string ⟨#[]⟩)), ((((Chg.set wr B 0 (.int .i64 0)).trans (Chg.set (wr.setCell ⟨B, 0, none⟩ (.int .i64 0)) B 1 (.int .i64 0))).trans (Chg.set ((wr.setCell ⟨B, 0, none⟩ (.int .i64 0)).setCell ⟨B, 1, none⟩ (.int .i64 0)) B 2 (.int .i64 0))).trans (Chg.set (((wr.setCell ⟨B, 0, none⟩ (.int .i64 0)).setCell ⟨B, 1, none⟩ (.int .i64 0)).setCell ⟨B, 2, none⟩ (.int .i64 0)) B 3 (.string ⟨#[]⟩)))⟩
       have GF : Hid (Chg (fun _ => False) w ((((wr.setCell ⟨B, 0, none⟩ (.int .i64 0)).setCell ⟨B, 1, none⟩ (.int .i64 0)).setCell ⟨B, 2, none⟩ (.int .i64 0)).setCell ⟨B, 3, none⟩ (.string ⟨#[]⟩))) := hide ((((G7.out.mono (T := fun x => B ≤ x) (fun x _ e => by omega)).trans (NB.out.2.mono (fun x _ h => by omega)))).mono (fun x hx e => by have := PL.out; omega))
       have LF := hide ((W7.out.chg NB.out.2 (fun x hx e => by have := hx.1; have := BG.out; have := PL.out; omega)).up (Y := fun x => w.heap.size ≤ x ∧ x < ((((wr.setCell ⟨B, 0, none⟩ (.int .i64 0)).setCell ⟨B, 1, none⟩ (.int .i64 0)).setCell ⟨B, 2, none⟩ (.int .i64 0)).setCell ⟨B, 3, none⟩ (.string ⟨#[]⟩)).heap.size) (fun x hx => ⟨by have := hx.1; have := BG.out; have := PL.out; omega, by have := NB.out.2.size; have := hx.2; omega⟩))
       generalize ((((wr.setCell ⟨B, 0, none⟩ (.int .i64 0)).setCell ⟨B, 1, none⟩ (.int .i64 0)).setCell ⟨B, 2, none⟩ (.int .i64 0)).setCell ⟨B, 3, none⟩ (.string ⟨#[]⟩)) = wF at *
       have r0 := blk_cell NB.out.1 0
       have r1 := blk_cell NB.out.1 1
       have r2 := blk_cell NB.out.1 2
       have r3 := blk_cell NB.out.1 3
       refine bodyPost_ret (v := .tuple #[.slice ua l.length uc, f4V (0, 0, 0, ⟨#[]⟩)]) (by simp [results, Try.results9, go_sem, r0, r1, r2, r3]) rfl ?_
       exact ⟨⟨_, by rw [HX.out], by rw [HX.out]; exact LF.out⟩, GF.out⟩
end Go.Proofs.Ytboeeaekhijboaa
