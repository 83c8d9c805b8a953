/- The program's parser: what is read of a text, and nothing behind it. -/
import Derived.Test.YtboeeaekhijboaaShort
import Derived.Test.YtboeeaekhijboaaPtoks
import Derived.Deep.CutBlock
namespace Go.Proofs.Ytboeeaekhijboaa
open Go.RowKit
set_option linter.unusedVariables false
set_option linter.unusedSimpArgs false

/-- nothing may stand behind it -/
def endS {α : Type} (ts : List Tok) (r : Rz α) : Rz α := r.bind fun x k => if k < ts.length then .error (3, k) else .ok (x, k)
abbrev F4 := Int × Int × Int × ByteArray
abbrev f4V (F : F4) : Value := .agg #[.int .i64 F.1, .int .i64 F.2.1, .int .i64 F.2.2.1, .string F.2.2.2]
/-- what a text comes to -/
def resS {α : Type} (zero : α) (s : ByteArray) (r : Rz α) : F4 × α :=
 match lexF s with
 | some x => ((x.1, (markOf (s.data.toList.take x.2.1)).1, (markOf (s.data.toList.take x.2.1)).2, x.2.2), zero)
 | none => match endS (lexT s) r with
   | .error e => (fl4 (lexT s) s (some e), zero)
   | .ok q => ((0, 0, 0, ⟨#[]⟩), q.1)
theorem flt_some {s : ByteArray} {x : Flt} (h : lexF s = some x) : flt s (lexG s (s.size + 1) 0 false) = (x.1, (markOf (s.data.toList.take x.2.1)).1, (markOf (s.data.toList.take x.2.1)).2, x.2.2) ∧ toksOf (lexG s (s.size + 1) 0 false) = [] := by
 have h' : (lexG s (s.size + 1) 0 false).2 = some x := h
 unfold flt toksOf
 rw [h']
 exact ⟨rfl, rfl⟩
theorem flt_none {s : ByteArray} (h : lexF s = none) : flt s (lexG s (s.size + 1) 0 false) = (0, 0, 0, ⟨#[]⟩) ∧ toksOf (lexG s (s.size + 1) 0 false) = lexT s := by
 have h' : (lexG s (s.size + 1) 0 false).2 = none := h
 unfold flt toksOf
 rw [h']
 exact ⟨rfl, rfl⟩
/-- a lexer's fault has a number -/
theorem lexG_fault (s : ByteArray) : ∀ f k b x, (lexG s f k b).2 = some x → x.1 = 2 ∨ x.1 = 3 := by
 intro f
 induction f with
 | zero => intro k b x h; simp [lexG] at h
 | succ f ih =>
   intro k b x h
   simp only [lexG] at h
   split at h
   ·
    cases h
   ·
    split at h
    ·
     injection h with h; rw [← h]; exact Or.inr rfl
    ·
     split at h
     ·
      injection h with h; rw [← h]; exact Or.inl rfl
     ·
      exact ih _ _ _ h
theorem isToks_chg {w w' : World} {v : Value} {ts : List Tok} (h : IsToks w v ts) (g : Chg (fun _ => False) w w') : IsToks w' v ts := by
 obtain ⟨a, cap, rfl, h1⟩ := h
 refine ⟨a, cap, rfl, ?_⟩
 rcases h1 with h1 | ⟨b, rfl, hb, hr⟩
 ·
  exact Or.inl h1
 ·
  refine Or.inr ⟨b, rfl, by have := g.size; omega, fun i hi => ?_⟩
  obtain ⟨x, y, z⟩ := hr i hi
  exact ⟨g.cell (fun h => h) x, g.cell (fun h => h) y, g.cell (fun h => h) z⟩
theorem endS_err {α : Type} (ts : List Tok) (x : Pf) : endS ts (.error x : Rz α) = .error x := rfl
theorem toks_ps {w : World} {v : Value} {ts : List Tok} {s : ByteArray} {rb pb : Nat} (hb : w.heap[pb]? = some (.cells #[.pointer (some ⟨rb, 0, none⟩), .int .i64 0, .int .i64 0, .int .i64 0, .int .i64 0, .string ⟨#[]⟩] 79)) (hr : Rd w rb 106 v s 0) (ht : Tks w rb v ts) (he : Env rb pb ts s) : PS w rb pb v ts s 0 (.ok 0) :=
 ⟨hb, hr, ht, Nat.zero_le _, he, fun e h => by cases h⟩

set_option maxRecDepth 100000 in
set_option maxHeartbeats 16000000 in
theorem parsedI_any (s : ByteArray) (hs : s.size ≤ 20000) (w : World) :
  Calls Try.prog 29 #[.string s, .func (.func 30) #[] #[]] w fun e w' => (∃ u, e = .returned (.tuple #[u, f4V (resS [] s (itemsS (lexT s) s 1000 [] 0)).1]) ∧ Iw w' (fun x => w.heap.size ≤ x ∧ x < w'.heap.size) u (resS [] s (itemsS (lexT s) s 1000 [] 0)).2) ∧ Chg (fun _ => False) w w' := by
 obtain ⟨RR, hRR⟩ : ∃ RR, resS [] s (itemsS (lexT s) s 1000 [] 0) = RR := ⟨_, rfl⟩
 rw [hRR]
 have HRR := hide hRR
 clear hRR
 have GB := hide (al w (.cells #[.int .i64 0, .int .i64 0, .int .i64 0, .string ⟨#[]⟩] 27))
 have BB := hide (blk_new w (.cells #[.int .i64 0, .int .i64 0, .int .i64 0, .string ⟨#[]⟩] 27))
 obtain ⟨B, hB⟩ : ∃ B, w.heap.size = B := ⟨_, rfl⟩
 have HB := hide hB
 obtain ⟨F, hF⟩ : ∃ F, F = flt s (lexG s (s.size + 1) 0 false) := ⟨_, rfl⟩
 have SP := hide (fun w => split_told s hs w F hF)
 have HF := hide hF
 rw [hB] at BB
 have HS := hide hs
 clear hB hF hs
 obtain ⟨f0, f1, f2, f3⟩ := F
 dsimp only at SP
 go_enter Try.func29, Try.ntmps29
 go_wp2_with fail
 rw [HB.out]
 generalize w.alloc (.cells #[.int .i64 0, .int .i64 0, .int .i64 0, .string ⟨#[]⟩] 27) = w1 at *
 refine (SP.out w1).mono ?_
 rintro e w2 ⟨⟨tv, rfl, ht⟩, g2⟩
 have C2 := Chg.ofB g2
 have GD := al w2 (.cells #[.int .i64 f0, .int .i64 f1, .int .i64 f2, .string f3] 27)
 have D3 := hide (blk_new w2 (.cells #[.int .i64 f0, .int .i64 f1, .int .i64 f2, .string f3] 27))
 have B3 := hide (GD.blk (C2.blk BB.out))
 have G3 := hide ((GB.out.trans C2).trans GD)
 have T2 := hide ht
 obtain ⟨D, hD⟩ : ∃ D, w2.heap.size = D := ⟨_, rfl⟩
 have DL : Hid (B < D ∧ w.heap.size = B) := hide ⟨by have := olt (C2.blk BB.out); omega, HB.out⟩
 rw [hD] at D3
 have GD2 := hide GD
 clear g2 C2 ht GD SP
 cases hl : lexF s with
 | some x =>
   obtain ⟨hf, htk⟩ := flt_some hl
   have h0 : f0 = x.1 := by have := HF.out; rw [hf] at this; exact congrArg Prod.fst this
   have hc : x.1 = 2 ∨ x.1 = 3 := lexG_fault s _ _ _ x hl
   have e0 : (f0 == 0) = false := by rw [h0]; rcases hc with h | h <;> rw [h] <;> rfl
   have e1 : (f0 != 0) = true := by rw [h0]; rcases hc with h | h <;> rw [h] <;> rfl
   have HR : Hid (RR = ((f0, f1, f2, f3), [])) := hide (by rw [← HRR.out]; unfold resS; rw [hl]; dsimp only; rw [← hf, ← HF.out])
   have q0 := blk_cell D3.out 0
   have q1 := blk_cell D3.out 1
   have q2 := blk_cell D3.out 2
   have q3 := blk_cell D3.out 3
   simp only [gets] at q0 q1 q2 q3
   clear hf htk h0 hc HF T2
   go_wp2_with fail
   clear hD
   generalize w2.alloc (.cells #[.int .i64 f0, .int .i64 f1, .int .i64 f2, .string f3] 27) = w3 at *
   refine wp_region_held_drew (S := (fun w' => w'.cell? ⟨D, 0, none⟩ = some (.int .i64 f0) ∧ w'.cell? ⟨D, 1, none⟩ = some (.int .i64 f1) ∧ w'.cell? ⟨D, 2, none⟩ = some (.int .i64 f2) ∧ w'.cell? ⟨D, 3, none⟩ = some (.string f3))) (by kernel_rfl) (by go_keep) (fun hHeld => ?_)
   first
    | (refine tku 0 ?_)
    | (refine tkl 0 ?_ ?_ ?_
       rotate_left
       (intro w hSw
        (try dsimp only at hSw)
        (go_simp <;> with_reducible rfl)))
   try simp only [Act.put, puts]
   first
    | (refine tku 1 ?_)
    | (refine tkl 1 ?_ ?_ ?_
       rotate_left
       (intro w hSw
        (try dsimp only at hSw)
        (go_simp <;> with_reducible rfl)))
   try simp only [Act.put, puts]
   first
    | (refine tku 2 ?_)
    | (refine tkl 2 ?_ ?_ ?_
       rotate_left
       (intro w hSw
        (try dsimp only at hSw)
        (go_simp <;> with_reducible rfl)))
   try simp only [Act.put, puts]
   refine rd1 3 (fun K hK => ?_)
   have b0 := blk_cell B3.out 0
   have ff0 := blk_free B3.out 0
   have b1 := blk_cell B3.out 1
   have ff1 := blk_free B3.out 1
   have b2 := blk_cell B3.out 2
   have ff2 := blk_free B3.out 2
   have b3 := blk_cell B3.out 3
   have ff3 := blk_free B3.out 3
   have NS : Hid (((((w3.setCell ⟨B, 0, none⟩ (.int .i64 f0)).setCell ⟨B, 1, none⟩ (.int .i64 f1)).setCell ⟨B, 2, none⟩ (.int .i64 f2)).setCell ⟨B, 3, none⟩ (.string f3)).heap[B]? = some (.cells #[.int .i64 f0, .int .i64 f1, .int .i64 f2, .string f3] 27) ∧ Chg (fun x => x = B) w3 ((((w3.setCell ⟨B, 0, none⟩ (.int .i64 f0)).setCell ⟨B, 1, none⟩ (.int .i64 f1)).setCell ⟨B, 2, none⟩ (.int .i64 f2)).setCell ⟨B, 3, none⟩ (.string f3))) := hide ⟨(blk_set (blk_set (blk_set (blk_set B3.out 0 (.int .i64 f0)) 1 (.int .i64 f1)) 2 (.int .i64 f2)) 3 (.string f3)), ((((Chg.set w3 B 0 (.int .i64 f0)).trans (Chg.set (w3.setCell ⟨B, 0, none⟩ (.int .i64 f0)) B 1 (.int .i64 f1))).trans (Chg.set ((w3.setCell ⟨B, 0, none⟩ (.int .i64 f0)).setCell ⟨B, 1, none⟩ (.int .i64 f1)) B 2 (.int .i64 f2))).trans (Chg.set (((w3.setCell ⟨B, 0, none⟩ (.int .i64 f0)).setCell ⟨B, 1, none⟩ (.int .i64 f1)).setCell ⟨B, 2, none⟩ (.int .i64 f2)) B 3 (.string f3)))⟩
   have u0 := NS.out.2.cell (by have := DL.out; omega) q0
   have u1 := NS.out.2.cell (by have := DL.out; omega) q1
   have u2 := NS.out.2.cell (by have := DL.out; omega) q2
   have u3 := NS.out.2.cell (by have := DL.out; omega) q3
   go_simp
   refine hK.out _ _ ⟨u0, u1, u2, u3⟩ (fun hHeld => ?_)
   clear hK K
   try simp only [Act.put, puts]
   refine wpAnyH_done (by kernel_rfl) ?_ _
   go_wp2_with fail
   have GF : Hid (Chg (fun _ => False) w ((((w3.setCell ⟨B, 0, none⟩ (.int .i64 f0)).setCell ⟨B, 1, none⟩ (.int .i64 f1)).setCell ⟨B, 2, none⟩ (.int .i64 f2)).setCell ⟨B, 3, none⟩ (.string f3))) := hide ((((G3.out.mono (T := fun x => x = B) (fun x _ h => h.elim)).trans NS.out.2).mono (fun x hx e => by have := DL.out; omega)))
   generalize ((((w3.setCell ⟨B, 0, none⟩ (.int .i64 f0)).setCell ⟨B, 1, none⟩ (.int .i64 f1)).setCell ⟨B, 2, none⟩ (.int .i64 f2)).setCell ⟨B, 3, none⟩ (.string f3)) = wF at *
   have r0 := blk_cell NS.out.1 0
   have r1 := blk_cell NS.out.1 1
   have r2 := blk_cell NS.out.1 2
   have r3 := blk_cell NS.out.1 3
   refine bodyPost_ret (v := .tuple #[.slice none 0 0, f4V (f0, f1, f2, f3)]) (by simp [results, Try.results29, go_sem, r0, r1, r2, r3]) rfl ?_
   exact ⟨⟨_, by rw [HR.out], by rw [HR.out]; exact ⟨none, 0, rfl, Or.inl rfl⟩⟩, GF.out.drew⟩
 | none =>
   obtain ⟨hf, htk⟩ := flt_none hl
   have hf' := HF.out.trans hf
   injection hf' with ha hb'
   injection hb' with hb' hc'
   injection hc' with hc' hd'
   subst ha hb' hc' hd'
   have T2 := hide (htk ▸ T2.out)
   have HR : Hid (RR = match endS (lexT s) (itemsS (lexT s) s 1000 [] 0) with | .error e => (fl4 (lexT s) s (some e), []) | .ok q => ((0, 0, 0, ⟨#[]⟩), q.1)) := hide (by rw [← HRR.out]; unfold resS; rw [hl]; dsimp only; cases endS (lexT s) (itemsS (lexT s) s 1000 [] 0) <;> rfl)
   have EV := hide (fun rb pb h => lexT_env HS.out (rb := rb) (pb := pb) h)
   have K4 := hide (lexT_4 s)
   clear hf htk hl HF
   have TL : Hid ((lexT s).length ≤ 20000) := hide (by have := lexT_len s; have := HS.out; omega)
   have HI := hide (fun rb pb v w h => items_any (rb := rb) (pb := pb) (v := v) (ts := lexT s) (s := s) (k0 := 0) (w := w) K4.out h)
   have KE : Hid (∀ k, (tokAt (lexT s) s k 0).1 = 4 ↔ ¬ k < (lexT s).length) := hide (fun k => by
    by_cases hk : k < (lexT s).length
    ·
     rw [tokAt_in (by omega) (by omega) (show k + (0 : Int).toNat < (lexT s).length from hk)]
     exact ⟨fun e => absurd e (K4.out _ (List.getElem_mem _)), fun e => absurd hk e⟩
    ·
     rw [tokAt_end (Or.inr (by omega))]
     exact ⟨fun _ => hk, fun _ => rfl⟩)
   have q0 := blk_cell D3.out 0
   simp only [List.getElem?_toArray, List.getElem?_cons_zero] at q0
   have T3 := hide (isToks_chg T2.out GD2.out)
   have NW := hide (new_any tv (lexT s) s (by have := TL.out; omega) _ T3.out)
   generalize lexT s = ts at *
   generalize itemsS ts s 1000 [] 0 = r at *
   go_wp2_with fail
   clear hD
   generalize w2.alloc (.cells #[.int .i64 0, .int .i64 0, .int .i64 0, .string ⟨#[]⟩] 27) = w3 at *
   refine NW.out.mono ?_
   rintro e w4 ⟨R, v', rfl, hR, hrd, htk, g4⟩
   have GP := al w4 (.cells #[.pointer (some ⟨R, 0, none⟩), .int .i64 0, .int .i64 0, .int .i64 0, .int .i64 0, .string ⟨#[]⟩] 79)
   have BP := blk_new w4 (.cells #[.pointer (some ⟨R, 0, none⟩), .int .i64 0, .int .i64 0, .int .i64 0, .int .i64 0, .string ⟨#[]⟩] 79)
   have RLT : Hid (B < R ∧ R < w4.heap.size ∧ w.heap.size = B) := hide ⟨by have := olt D3.out; have := DL.out; omega, blk_lt hrd, HB.out⟩
   have P5 := hide (toks_ps BP (hrd.chg GP (fun h => h)) (htk.chg GP (fun _ _ h => h)) (EV.out R w4.heap.size (blk_lt hrd)))
   have B5 := hide (GP.blk (g4.blk B3.out))
   have G5 := hide ((G3.out.trans g4).trans GP)
   obtain ⟨pb, hpb⟩ : ∃ pb, w4.heap.size = pb := ⟨_, rfl⟩
   rw [hpb] at P5 RLT
   clear hR hrd htk g4 GP BP NW
   have IT := hide (HI.out R pb v' _ P5.out)
   go_wp2_with fail
   clear hpb
   generalize w4.alloc (.cells #[.pointer (some ⟨R, 0, none⟩), .int .i64 0, .int .i64 0, .int .i64 0, .int .i64 0, .string ⟨#[]⟩] 79) = w5 at *
   refine IT.out.mono ?_
   rintro e w6 ⟨⟨u, l, rfl, hl, hq⟩, h6, g6⟩
   have H6 := hide h6
   have B6 := hide (g6.blkS (by have := RLT.out; rintro (e | e) <;> omega) B5.out)
   have G6 : Hid (Chg (fun x => B < x) w w6) := hide (((G5.out.mono (T := fun x => B < x) (fun x _ h => h.elim)).trans (g6.mono (fun x _ e => by have := RLT.out; rcases e with e | e <;> omega))))
   have L6 := hide (hl.up (Y := fun x => pb < x ∧ x < w6.heap.size) (fun x hx => ⟨by have := olt P5.out.blk; omega, hx.2⟩))
   have HQ := hide hq
   have PK := hide (peek_some R R v' ts s r.st.pos 0 h6.le (by have := TL.out; omega) (by have := HS.out; omega) w6 h6.rd h6.tks)
   obtain ⟨c0, _, _, _, _, _⟩ := h6.cells
   clear h6 g6 hl hq IT P5 B5 G5
   have KD := hide (KE.out r.st.pos)
   obtain ⟨t, ht⟩ : ∃ t, tokAt ts s r.st.pos 0 = t := ⟨_, rfl⟩
   rw [ht] at PK KD
   clear ht
   obtain ⟨t0, t1, t2⟩ := t
   have etv : tokV (t0, t1, t2) = .agg #[.int .i64 t0, .string t1, .int .i64 (t2 : Int)] := rfl
   rw [etv] at PK
   have fl0 := field75_0 (.int .i64 t0) (.string t1) (.int .i64 (t2 : Int))
   dsimp only at KD
   clear etv
   go_wp2_with fail
   refine PK.out.mono ?_
   rintro e w7 ⟨rfl, g7⟩
   have H7 := hide (H6.out.chg g7 (fun _ _ h => h))
   have B7 := hide (g7.blk B6.out)
   have G7 := hide (G6.out.trans g7.none)
   have L7 := hide ((L6.out.chg g7 (fun _ _ h => h)).up (Y := fun x => pb < x ∧ x < w7.heap.size) (fun x hx => ⟨hx.1, by have := g7.size; omega⟩))
   clear g7 c0 PK H6 B6 G6 L6
   go_upto_if 35 with fail
   go_cut [10] (fun s10 wx => s10 = u ∧ Hid (PS wx R pb v' ts s 0 (endS ts r).st) ∧ Hid (Chg (fun x => x = pb) w7 wx))
   case first =>
    by_cases h4 : t0 = 4
    ·
     have e4 : (t0 != 4) = false := by simp [h4]
     have hge := KD.out.1 h4
     have HE : Hid (PS w7 R pb v' ts s 0 (endS ts r).st) := hide (by
      cases r with
      | error x => exact H7.out
      | ok q =>
        have hge' : ¬ q.2 < ts.length := hge
        unfold endS
        simp only [Rz.bind]
        rw [if_neg hge']
        exact H7.out)
     clear hge h4
     go_wp2_with fail
     go_meet
     exact ⟨rfl, HE, hide (Chg.refl _ _)⟩
    ·
     have e4 : (t0 != 4) = true := by simpa using h4
     have hlt : r.st.pos < ts.length := Classical.byContradiction (fun hn => h4 (KD.out.2 hn))
     have HLT := hide hlt
     clear h4 hlt
     cases r with
     | error x =>
       have FA := hide (fail_err 3 H7.out)
       go_wp2_with fail
       refine FA.out.mono ?_
       rintro e w8 ⟨rfl, rfl⟩
       go_wp2_with fail
       go_meet
       exact ⟨rfl, H7, hide (Chg.refl _ _)⟩
     | ok q =>
       have FA := hide (fail_ok 3 (Or.inr rfl) (k := q.2) H7.out)
       have HE : Hid ((endS ts (.ok q : Rz (List It))).st = .error (3, q.2)) := hide (by
        have h : q.2 < ts.length := HLT.out
        unfold endS
        simp only [Rz.bind]
        rw [if_pos h]
        rfl)
       go_wp2_with fail
       refine FA.out.mono ?_
       rintro e w8 ⟨rfl, h8, g8⟩
       have H8 : Hid (PS w8 R pb v' ts s 0 (endS ts (.ok q : Rz (List It))).st) := hide (by rw [HE.out]; exact h8)
       have G8 := hide g8
       clear h8 g8
       go_wp2_with fail
       go_meet
       exact ⟨rfl, H8, G8⟩
   case rest =>
    obtain ⟨rfl, H8, g8⟩ := hcut
    generalize wc = w8 at *
    have B8 := hide (g8.out.blkS (by have := RLT.out; omega) B7.out)
    have G8 : Hid (Chg (fun x => B < x) w w8) := hide (G7.out.trans (g8.out.mono (fun x _ e => by have := RLT.out; omega)))
    have HE : Hid (∀ q, endS ts r = .ok q → l = q.1) := hide (fun q hq => by
     cases r with
     | error x => cases hq
     | ok p =>
       have := HQ.out p rfl
       unfold endS at hq
       simp only [Rz.bind] at hq
       split at hq
       ·
        cases hq
       ·
        cases hq; exact this)
    have L8 := hide ((L7.out.chg g8.out (fun x hx e => by have := hx.1; omega)).up (Y := fun x => pb < x ∧ x < w8.heap.size) (fun x hx => ⟨hx.1, by have := g8.out.size; have := hx.2; omega⟩))
    clear H7 B7 G7 L7 KD KE HQ
    obtain ⟨c0, _, c2, c3, c4, c5⟩ := H8.out.cells
    cases hE : endS ts r with
    | error x =>
      have HRE : Hid (RR = (fl4 ts s (some x), [])) := hide (by rw [HR.out, hE])
      rw [hE] at H8
      have H8 : Hid (PS w8 R pb v' ts s 0 (.error x)) := H8
      clear c2 c3 c4 c5
      have c2 : w8.cell? ⟨pb, 2, none⟩ = some (.int .i64 (fl4 ts s (some x)).1) := H8.out.cells.2.2.1
      have c3 : w8.cell? ⟨pb, 3, none⟩ = some (.int .i64 (fl4 ts s (some x)).2.1) := H8.out.cells.2.2.2.1
      have c4 : w8.cell? ⟨pb, 4, none⟩ = some (.int .i64 (fl4 ts s (some x)).2.2.1) := H8.out.cells.2.2.2.2.1
      have c5 : w8.cell? ⟨pb, 5, none⟩ = some (.string (fl4 ts s (some x)).2.2.2) := H8.out.cells.2.2.2.2.2
      clear HR hE HE L8
      obtain ⟨F, hF⟩ : ∃ F, fl4 ts s (some x) = F := ⟨_, rfl⟩
      rw [hF] at HRE c2 c3 c4 c5
      clear hF
      obtain ⟨f0, f1, f2, f3⟩ := F
      dsimp only at c2 c3 c4 c5
      go_wp2_with fail
      refine (ok_err H8.out).mono ?_
      rintro e w9 ⟨rfl, rfl⟩
      go_wp2_with fail
      refine wp_region_held_drew (S := (fun w' => w'.cell? ⟨pb, 2, none⟩ = some (.int .i64 f0) ∧ w'.cell? ⟨pb, 3, none⟩ = some (.int .i64 f1) ∧ w'.cell? ⟨pb, 4, none⟩ = some (.int .i64 f2) ∧ w'.cell? ⟨pb, 5, none⟩ = some (.string f3))) (by kernel_rfl) (by go_keep) (fun hHeld => ?_)
      first
       | (refine tku 0 ?_)
       | (refine tkl 0 ?_ ?_ ?_
          rotate_left
          (intro w hSw
           (try dsimp only at hSw)
           (go_simp <;> with_reducible rfl)))
      try simp only [Act.put, puts]
      first
       | (refine tku 1 ?_)
       | (refine tkl 1 ?_ ?_ ?_
          rotate_left
          (intro w hSw
           (try dsimp only at hSw)
           (go_simp <;> with_reducible rfl)))
      try simp only [Act.put, puts]
      first
       | (refine tku 2 ?_)
       | (refine tkl 2 ?_ ?_ ?_
          rotate_left
          (intro w hSw
           (try dsimp only at hSw)
           (go_simp <;> with_reducible rfl)))
      try simp only [Act.put, puts]
      first
       | (refine tku 3 ?_)
       | (refine tkl 3 ?_ ?_ ?_
          rotate_left
          (intro w hSw
           (try dsimp only at hSw)
           (go_simp <;> with_reducible rfl)))
      try simp only [Act.put, puts]
      first
       | (refine tku 4 ?_)
       | (refine tkl 4 ?_ ?_ ?_
          rotate_left
          (intro w hSw
           (try dsimp only at hSw)
           (go_simp <;> with_reducible rfl)))
      try simp only [Act.put, puts]
      first
       | (refine tku 5 ?_)
       | (refine tkl 5 ?_ ?_ ?_
          rotate_left
          (intro w hSw
           (try dsimp only at hSw)
           (go_simp <;> with_reducible rfl)))
      try simp only [Act.put, puts]
      refine rd1 6 (fun K hK => ?_)
      have b0 := blk_cell B8.out 0
      have ff0 := blk_free B8.out 0
      have b1 := blk_cell B8.out 1
      have ff1 := blk_free B8.out 1
      have b2 := blk_cell B8.out 2
      have ff2 := blk_free B8.out 2
      have b3 := blk_cell B8.out 3
      have ff3 := blk_free B8.out 3
      have NS : Hid (((((w8.setCell ⟨B, 0, none⟩ (.int .i64 f0)).setCell ⟨B, 1, none⟩ (.int .i64 f1)).setCell ⟨B, 2, none⟩ (.int .i64 f2)).setCell ⟨B, 3, none⟩ (.string f3)).heap[B]? = some (.cells #[.int .i64 f0, .int .i64 f1, .int .i64 f2, .string f3] 27) ∧ Chg (fun x => x = B) w8 ((((w8.setCell ⟨B, 0, none⟩ (.int .i64 f0)).setCell ⟨B, 1, none⟩ (.int .i64 f1)).setCell ⟨B, 2, none⟩ (.int .i64 f2)).setCell ⟨B, 3, none⟩ (.string f3))) := hide ⟨(blk_set (blk_set (blk_set (blk_set B8.out 0 (.int .i64 f0)) 1 (.int .i64 f1)) 2 (.int .i64 f2)) 3 (.string f3)), ((((Chg.set w8 B 0 (.int .i64 f0)).trans (Chg.set (w8.setCell ⟨B, 0, none⟩ (.int .i64 f0)) B 1 (.int .i64 f1))).trans (Chg.set ((w8.setCell ⟨B, 0, none⟩ (.int .i64 f0)).setCell ⟨B, 1, none⟩ (.int .i64 f1)) B 2 (.int .i64 f2))).trans (Chg.set (((w8.setCell ⟨B, 0, none⟩ (.int .i64 f0)).setCell ⟨B, 1, none⟩ (.int .i64 f1)).setCell ⟨B, 2, none⟩ (.int .i64 f2)) B 3 (.string f3)))⟩
      have u0 := NS.out.2.cell (by have := RLT.out; omega) c2
      have u1 := NS.out.2.cell (by have := RLT.out; omega) c3
      have u2 := NS.out.2.cell (by have := RLT.out; omega) c4
      have u3 := NS.out.2.cell (by have := RLT.out; omega) c5
      go_simp
      refine hK.out _ _ ⟨u0, u1, u2, u3⟩ (fun hHeld => ?_)
      clear hK K
      try simp only [Act.put, puts]
      refine wpAnyH_done (by kernel_rfl) ?_ _
      go_wp2_with fail
      have GF : Hid (Chg (fun _ => False) w ((((w8.setCell ⟨B, 0, none⟩ (.int .i64 f0)).setCell ⟨B, 1, none⟩ (.int .i64 f1)).setCell ⟨B, 2, none⟩ (.int .i64 f2)).setCell ⟨B, 3, none⟩ (.string f3))) := hide (((G8.out.mono (T := fun x => B ≤ x) (fun x _ h => Nat.le_of_lt h)).trans (NS.out.2.mono (fun x _ h => by omega))).mono (fun x hx e => by have := RLT.out; omega))
      generalize ((((w8.setCell ⟨B, 0, none⟩ (.int .i64 f0)).setCell ⟨B, 1, none⟩ (.int .i64 f1)).setCell ⟨B, 2, none⟩ (.int .i64 f2)).setCell ⟨B, 3, none⟩ (.string f3)) = wF at *
      have r0 := blk_cell NS.out.1 0
      have r1 := blk_cell NS.out.1 1
      have r2 := blk_cell NS.out.1 2
      have r3 := blk_cell NS.out.1 3
      refine bodyPost_ret (v := .tuple #[.slice none 0 0, f4V (f0, f1, f2, f3)]) (by simp [results, Try.results29, go_sem, r0, r1, r2, r3]) rfl ?_
      exact ⟨⟨_, by rw [HRE.out], by rw [HRE.out]; exact ⟨none, 0, rfl, Or.inl rfl⟩⟩, GF.out.drew⟩
    | ok q =>
      have HRE : Hid (RR = ((0, 0, 0, ⟨#[]⟩), q.1)) := hide (by rw [HR.out, hE])
      have HL2 := hide (HE.out q hE)
      rw [hE] at H8
      have H8 : Hid (PS w8 R pb v' ts s 0 (.ok q.2)) := H8
      clear HR hE HE c2 c3 c4 c5
      go_wp2_with fail
      refine (ok_ok H8.out).mono ?_
      rintro e w9 ⟨rfl, rfl⟩
      have b0 := blk_cell B8.out 0
      have ff0 := blk_free B8.out 0
      have b1 := blk_cell B8.out 1
      have ff1 := blk_free B8.out 1
      have b2 := blk_cell B8.out 2
      have ff2 := blk_free B8.out 2
      have b3 := blk_cell B8.out 3
      have ff3 := blk_free B8.out 3
      have NS : Hid (((((w8.setCell ⟨B, 0, none⟩ (.int .i64 0)).setCell ⟨B, 1, none⟩ (.int .i64 0)).setCell ⟨B, 2, none⟩ (.int .i64 0)).setCell ⟨B, 3, none⟩ (.string ⟨#[]⟩)).heap[B]? = some (.cells #[.int .i64 0, .int .i64 0, .int .i64 0, .string ⟨#[]⟩] 27) ∧ Chg (fun x => x = B) w8 ((((w8.setCell ⟨B, 0, none⟩ (.int .i64 0)).setCell ⟨B, 1, none⟩ (.int .i64 0)).setCell ⟨B, 2, none⟩ (.int .i64 0)).setCell ⟨B, 3, none⟩ (.string ⟨#[]⟩))) := hide ⟨(blk_set (blk_set (blk_set (blk_set B8.out 0 (.int .i64 0)) 1 (.int .i64 0)) 2 (.int .i64 0)) 3 (.string ⟨#[]⟩)), ((((Chg.set w8 B 0 (.int .i64 0)).trans (Chg.set (w8.setCell ⟨B, 0, none⟩ (.int .i64 0)) B 1 (.int .i64 0))).trans (Chg.set ((w8.setCell ⟨B, 0, none⟩ (.int .i64 0)).setCell ⟨B, 1, none⟩ (.int .i64 0)) B 2 (.int .i64 0))).trans (Chg.set (((w8.setCell ⟨B, 0, none⟩ (.int .i64 0)).setCell ⟨B, 1, none⟩ (.int .i64 0)).setCell ⟨B, 2, none⟩ (.int .i64 0)) B 3 (.string ⟨#[]⟩)))⟩
      go_wp2_with fail
      have GF : Hid (Chg (fun _ => False) w ((((w8.setCell ⟨B, 0, none⟩ (.int .i64 0)).setCell ⟨B, 1, none⟩ (.int .i64 0)).setCell ⟨B, 2, none⟩ (.int .i64 0)).setCell ⟨B, 3, none⟩ (.string ⟨#[]⟩))) := hide (((G8.out.mono (T := fun x => B ≤ x) (fun x _ h => Nat.le_of_lt h)).trans (NS.out.2.mono (fun x _ h => by omega))).mono (fun x hx e => by have := RLT.out; omega))
      have LF := hide ((L8.out.chg NS.out.2 (fun x hx e => by have := hx.1; have := RLT.out; omega)).up (Y := fun x => w.heap.size ≤ x ∧ x < ((((w8.setCell ⟨B, 0, none⟩ (.int .i64 0)).setCell ⟨B, 1, none⟩ (.int .i64 0)).setCell ⟨B, 2, none⟩ (.int .i64 0)).setCell ⟨B, 3, none⟩ (.string ⟨#[]⟩)).heap.size) (fun x hx => ⟨by have := hx.1; have := RLT.out; omega, by have := NS.out.2.size; have := hx.2; omega⟩))
      generalize ((((w8.setCell ⟨B, 0, none⟩ (.int .i64 0)).setCell ⟨B, 1, none⟩ (.int .i64 0)).setCell ⟨B, 2, none⟩ (.int .i64 0)).setCell ⟨B, 3, none⟩ (.string ⟨#[]⟩)) = wF at *
      have r0 := blk_cell NS.out.1 0
      have r1 := blk_cell NS.out.1 1
      have r2 := blk_cell NS.out.1 2
      have r3 := blk_cell NS.out.1 3
      obtain ⟨ua, uc, hu, _⟩ := id LF.out
      subst hu
      refine bodyPost_ret (v := .tuple #[.slice ua l.length uc, f4V (0, 0, 0, ⟨#[]⟩)]) (by simp [results, Try.results29, go_sem, r0, r1, r2, r3]) rfl ?_
      exact ⟨⟨_, by rw [HRE.out], by rw [HRE.out, ← HL2.out]; exact LF.out⟩, GF.out⟩
end Go.Proofs.Ytboeeaekhijboaa
