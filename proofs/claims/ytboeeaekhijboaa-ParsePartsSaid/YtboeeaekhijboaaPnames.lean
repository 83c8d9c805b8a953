/- The names within trees: the program's. The names within trees: the program's Names. -/
import Derived.Test.YtboeeaekhijboaaPrnames
import Derived.Maps.OwnSet
import Derived.Maps.Views
import Derived.Deep.CutBlock
import Derived.Laws.EntriesVeiled
namespace Go.Proofs.Ytboeeaekhijboaa
open Go.RowKit Go.Maps
set_option linter.unusedVariables false
set_option linter.unusedSimpArgs false

theorem law9 : Keyed Try.prog 9 := string_keyed Try.underlying9
theorem key9 {s : ByteArray} (h : s.size ≤ maxLen) : keyOf Try.prog 9 (.string s) = some (.string s.data.toList) := by
  simp [keyOf, Try.underlying9, mapKey, h]
theorem bytesEq {a b : ByteArray} (h : a.data.toList = b.data.toList) : a = b := by
  cases a; cases b; congr; exact Array.toList_inj.1 h

/-- The block B holds a map from names that reads as f. -/
def MS {V : Type} (R : Value → Option (DataW Unit × List MemPlace)) (enc : V → DataW Unit) (w : World) (B m : Nat) (f : ByteArray → Option V) : Prop :=
  ∃ D : DataW Unit, w.ownsMap Try.prog 9 R B m D ∧ IsMap D ∧ ∀ s : ByteArray, s.size ≤ maxLen → Maps.has D (.string s.data.toList) = (f s).isSome ∧ ∀ z, D.atKey (.string s.data.toList) z = (match f s with | some x => enc x | none => z)

section
variable {V : Type} {R : Value → Option (DataW Unit × List MemPlace)} {enc : V → DataW Unit} {w : World} {B m : Nat} {f : ByteArray → Option V}

theorem MS.chg {w' : World} (h : MS R enc w B m f) {S : Nat → Prop} (g : Chg S w w') (hn : ¬ S B) : MS R enc w' B m f := by
  obtain ⟨D, h1, h2⟩ := h
  obtain ⟨es, clock, hb, F⟩ := h1
  exact ⟨D, ⟨es, clock, g.blkS hn hb, F⟩, h2⟩
theorem MS.lt (h : MS R enc w B m f) : B < w.heap.size := by
  obtain ⟨D, h1, h2⟩ := h
  exact h1.lt
theorem MS.made (w : World) : MS R enc (w.alloc (.map #[] 0)) w.heap.size 0 (fun _ => none) :=
  ⟨_, World.ownsMap_made _ _ _ _, ⟨[], rfl⟩, fun x hx => ⟨rfl, fun z => rfl⟩⟩

theorem MS.put (h : MS R enc w B m f) {t e : TypeId} (ht : Try.prog.underlying t = some (.map 9 e)) (hm : m ≤ 1000000) {s : ByteArray} (hs : s.size ≤ maxLen) {val : Value} {x : V} {ps : List MemPlace} (hv : R val = some (enc x, ps)) :
    ∃ w', (Instr.mapUpdate t (.map (some B)) (.string s) val).run Try.prog w = .ok () w' ∧ MS R enc w' B (m + 1) (fun k => if k = s then some x else f k) ∧ Chg (fun b => b = B) w w' := by
  obtain ⟨D, h1, h2, h3⟩ := h
  obtain ⟨w', hrun, hown, hgrow⟩ := h1.update law9 ht (by unfold maxLen; omega) (key9 hs) hv
  refine ⟨w', hrun, ⟨_, hown, h2.put _ _, fun k hk => ?_⟩, ⟨hgrow.os, hgrow.tape, hgrow.output, hgrow.size, fun i hi hn => hgrow.block i hi (fun e => hn (by injection e))⟩⟩
  by_cases e : k = s
  · subst e
    have hkl := law9.key (key9 hs)
    simp only [if_true]
    exact ⟨has_put_same h2 hkl _, fun z => atKey_put_same h2 hkl _ _⟩
  · have hne : (Lit.string k.data.toList) ≠ (Lit.string s.data.toList) := fun h => e (bytesEq (by injection h))
    simp only [if_neg e]
    rw [has_put_other hne]
    refine ⟨(h3 k hk).1, fun z => ?_⟩
    rw [atKey_put_other hne]
    exact (h3 k hk).2 z

theorem MS.get (h : MS R enc w B m f) {t e : TypeId} (ht : Try.prog.underlying t = some (.map 9 e)) {z : Value} (hz : (zeroValue e).run Try.prog w = .ok z w) {zd : DataW Unit} {zp : List MemPlace} (hzd : R z = some (zd, zp)) {s : ByteArray} (hs : s.size ≤ maxLen) :
    ∃ v ps, (Instr.lookup t (.map (some B)) (.string s) false).run Try.prog w = .ok v w ∧ R v = some ((match f s with | some x => enc x | none => zd), ps) := by
  obtain ⟨D, h1, h2, h3⟩ := h
  obtain ⟨v, ps, hr, hv⟩ := h1.lookup law9 ht hz hzd (key9 hs)
  exact ⟨v, ps, hr, by rw [hv, (h3 s hs).2]⟩
end

set_option maxRecDepth 100000 in
theorem zero4 (w : World) : (zeroValue 4).run Try.prog w = .ok (.bool false) w := by kernel_rfl
theorem inW_iff {s k : ByteArray} : (k.toList == s.toList) = decide (k = s) := by
  by_cases h : k = s
  · subst h; simp
  · have h2 : ¬ k.toList = s.toList := fun e => h (tl_inj e)
    rw [decide_eq_false h]
    exact beq_false_of_ne h2
def encB (x : Bool) : DataW Unit := .lit (.bool x)
/-- a map of names to true -/
def SM (w : World) (B m : Nat) (l : List ByteArray) : Prop := MS (plainElem Try.prog 4) encB w B m (fun s => if inW l s = true then some true else none)
set_option maxRecDepth 100000 in
theorem plainB_inv {v : Value} {x : Bool} {ps : List MemPlace} (h : plainElem (H := Unit) Try.prog 4 v = some (.lit (.bool x), ps)) : v = .bool x := by
  unfold plainElem at h
  rw [Try.underlying4] at h
  cases v <;> simp at h
  rw [h.1]
theorem SM.get {w : World} {B m : Nat} {l : List ByteArray} (h : SM w B m l) {s : ByteArray} (hs : s.size ≤ maxLen) : (Instr.lookup 97 (.map (some B)) (.string s) false).run Try.prog w = .ok (.bool (inW l s)) w := by
  obtain ⟨v, ps, hr, hv⟩ := MS.get h Try.underlying97 (zero4 _) (plainElem_bool Try.underlying4 false) hs
  rw [hr]
  by_cases e : inW l s = true
  · simp only [if_pos e] at hv
    rw [plainB_inv hv, e]
  · simp only [if_neg e] at hv
    rw [Bool.not_eq_true] at e
    rw [plainB_inv hv, e]
theorem SM.put {w : World} {B m : Nat} {l : List ByteArray} (h : SM w B m l) (hm : m ≤ 1000000) {s : ByteArray} (hs : s.size ≤ maxLen) :
    ∃ w', (Instr.mapUpdate 97 (.map (some B)) (.string s) (.bool true)).run Try.prog w = .ok () w' ∧ SM w' B (m + 1) (l ++ [s]) ∧ Chg (fun b => b = B) w w' := by
  obtain ⟨w', h1, h2, h3⟩ := MS.put h Try.underlying97 hm hs (x := true) (plainElem_bool Try.underlying4 true)
  refine ⟨w', h1, ?_, h3⟩
  unfold SM
  have e : (fun k => if inW (l ++ [s]) k = true then some true else none) = fun k => if k = s then some true else if inW l k = true then some true else none := by
    funext k
    rw [inW_snoc, inW_iff]
    by_cases e1 : k = s
    · simp [e1]
    · have e1' : ¬ s = k := fun h => e1 h.symm
      simp [e1, e1']
  rw [e]
  exact h2
theorem SM.made (w : World) : SM (w.alloc (.map #[] 0)) w.heap.size 0 [] := by
  unfold SM
  have e : (fun k : ByteArray => if inW [] k = true then some true else none) = fun _ => none := by funext k; rfl
  rw [e]
  exact MS.made w

/-- every word is short enough to be a key -/
def Wsz : Ns → Prop
  | .nil => True
  | .cons _ s _ x r => s.size ≤ maxLen ∧ Wsz x ∧ Wsz r
theorem wsz_get : ∀ {f : Ns}, Wsz f → ∀ i (h : i < f.toL.length), (f.toL[i]).word.size ≤ maxLen ∧ Wsz (f.toL[i]).kids
  | .nil, _, i, h => absurd h (Nat.not_lt_zero _)
  | .cons k s a x r, hw, 0, h => ⟨hw.1, hw.2.1⟩
  | .cons k s a x r, hw, i + 1, h => by
    have := wsz_get hw.2.2 i (by simpa [Ns.toL] using h)
    simpa only [Ns.toL, List.getElem_cons_succ] using this
abbrev fnV (M O F : Nat) : Value := .func (.func 45) #[] #[.pointer (some ⟨M, 0, none⟩), .pointer (some ⟨O, 0, none⟩), .pointer (some ⟨F, 0, none⟩)]
/-- what was met, and the names, in memory -/
structure NSt (w : World) (M O F Bm B : Nat) (u : Value) (l : List ByteArray) : Prop where
  cm : w.cell? ⟨M, 0, none⟩ = some (.map (some Bm))
  bo : w.heap[O]? = some (.cells #[u] 39)
  cf : w.cell? ⟨F, 0, none⟩ = some (fnV M O F)
  mp : SM w Bm l.length l
  own : w.ownsRow B 9 1 u l.length (l.map .string)
  lt : M < B ∧ O < B ∧ F < B ∧ Bm < B ∧ B ≤ w.heap.size
  ne : ¬ M = O ∧ ¬ M = Bm ∧ ¬ F = O ∧ ¬ F = Bm ∧ ¬ O = Bm
theorem NSt.chg {w w' : World} {M O F Bm B : Nat} {u : Value} {l : List ByteArray} (h : NSt w M O F Bm B u l) (g : Chg (fun _ => False) w w') : NSt w' M O F Bm B u l :=
  ⟨g.cell (fun h => h) h.cm, g.blkS (fun h => h) h.bo, g.cell (fun h => h) h.cf, MS.chg h.mp g (fun h => h), own_chgS h.own g (fun _ _ h => h), ⟨h.lt.1, h.lt.2.1, h.lt.2.2.1, h.lt.2.2.2.1, Nat.le_trans h.lt.2.2.2.2 g.size⟩, h.ne⟩
abbrev NSet (O Bm B : Nat) : Nat → Prop := fun x => x = O ∨ x = Bm ∨ B ≤ x
def NmPost (M O F Bm B : Nat) (l' : List ByteArray) (w : World) (e : Ending) (w' : World) : Prop :=
  e = .returned (.tuple #[]) ∧ ∃ u', Hid (NSt w' M O F Bm B u' l') ∧ Hid (Chg (NSet O Bm B) w w')
def NmC (f : Ns) : Prop := ∀ (l : List ByteArray) (k : Int) (s : ByteArray) (a : Int) (v u : Value) (X : Nat → Prop) (M O F Bm B : Nat) (w : World), s.size ≤ maxLen → Wsz f → l.length + f.size ≤ 900000 → (∀ x, X x → x < B ∧ ¬ x = O ∧ ¬ x = Bm) → Ts w X v f → NSt w M O F Bm B u l →
  Calls Try.prog 45 #[.agg #[.int .i64 k, .string s, .int .i64 a, v], .pointer (some ⟨M, 0, none⟩), .pointer (some ⟨O, 0, none⟩), .pointer (some ⟨F, 0, none⟩)] w (NmPost M O F Bm B (nmsN k s f l) w)
def NmInv (w1 wr : World) (M O F Bm B : Nat) (f : Ns) (i : Nat) (R : List ByteArray) : Prop :=
  ∃ u l, Hid (NSt wr M O F Bm B u l) ∧ Hid (Chg (NSet O Bm B) w1 wr) ∧ Hid (nmsR (f.drop i) l = R) ∧ Hid (l.length + (f.drop i).size ≤ 900001)

set_option maxRecDepth 100000 in
set_option maxHeartbeats 32000000 in
theorem names_step (n : Nat) (ih : ∀ f : Ns, f.size < n → NmC f) (f : Ns) (hf : f.size ≤ n) : NmC f := by
  intro l k s a v u X M O F Bm B w hsw hwz hsz hX hv ho
  obtain ⟨i0, hi0, hz0, hz1, hz2⟩ := info_parts infoW9
  have IH := hide ih
  have HF := hide hf
  have HX := hide hX
  have HSZ := hide hsz
  have HSW := hide hsw
  have HWZ := hide hwz
  obtain ⟨R, hR⟩ : ∃ R, nmsN k s f l = R := ⟨_, rfl⟩
  rw [hR]
  have HR : Hid (nmsR f (if (k == 1) = true then addW l s else l) = R) := hide hR
  obtain ⟨av, cap, rfl, _⟩ := id hv
  have HV := hide hv
  have htl := Ns.toL_len f
  have G1 := al w (.cells #[.int .i64 k, .string s, .int .i64 a, .slice av f.len cap] 51)
  have BP := hide (blk_new w (.cells #[.int .i64 k, .string s, .int .i64 a, .slice av f.len cap] 51))
  have GG := hide G1
  have S1 := hide (ho.chg G1)
  have HBW := hide ho.lt.2.2.2.2
  have OLT := hide (fun r (e : u.ownBlock = some r) => (World.ownsRow.lt ho.own r e).2)
  clear hv G1 hR hf ih hsz hX ho hsw hwz
  go_enter Try.func45, Try.ntmps45
  go_upto_region 1 with fail
  generalize (w.alloc (.cells #[.int .i64 k, .string s, .int .i64 a, .slice av f.len cap] 51)) = w1 at *
  obtain ⟨P, hP⟩ : ∃ P, w.heap.size = P := ⟨_, rfl⟩
  have HP : Hid (w.heap.size = P) := hide hP
  rw [hP] at BP ⊢
  clear hP
  obtain ⟨l2, hl2⟩ : ∃ l2, (if (k == 1) = true then addW l s else l) = l2 := ⟨_, rfl⟩
  have HL2 := hide hl2
  have HL2L : Hid (l.length ≤ 900000) := hide (by have := HSZ.out; omega)
  rw [hl2] at HR
  have HL3 : Hid (l2.length + (f.drop 0).size ≤ 900001) := hide (by rw [Ns.drop_zero]; have := addW_le l s; have := HSZ.out; split at hl2 <;> (subst hl2; omega))
  clear hl2
  obtain ⟨ig, hig⟩ : ∃ ig, ((k == 1) && !inW l s) = ig := ⟨_, rfl⟩
  have HIG := hide hig
  clear hig
  go_cut [16] (fun sv wx => sv = .bool ig ∧ w1 = wx)
  case first =>
    clear HV IH HR
    have p0 : w1.cell? ⟨P, 0, none⟩ = some (.int .i64 k) := blk_cell BP.out 0
    cases e1 : (k == 1)
    · go_wp2_with fail
      go_meet
      exact ⟨by rw [← HIG.out, e1]; rfl, rfl⟩
    · have p1 : w1.cell? ⟨P, 1, none⟩ = some (.string s) := blk_cell BP.out 1
      have cm := S1.out.cm
      have lk := SM.get S1.out.mp HSW.out
      have GW := hide (show ((k == 1) && !inW l s) = ig from HIG.out)
      generalize inW l s = b at *
      go_wp2_with fail
      go_meet
      exact ⟨by rw [← GW.out, e1]; rfl, rfl⟩
  case rest =>
  obtain ⟨rfl, rfl⟩ := hcut
  go_upto_if 16 with fail
  go_cut [4] (fun s4 wx => s4 = .pointer (some ⟨P, 0, none⟩) ∧ (∃ u2, Hid (NSt wx M O F Bm B u2 l2)) ∧ Hid (wx.heap[P]? = some (.cells #[.int .i64 k, .string s, .int .i64 a, .slice av f.len cap] 51)) ∧ Hid (Chg (NSet O Bm B) w1 wx))
  case first =>
    clear HV IH HR
    cases ig
    · have E2 : Hid (l2 = l) := hide (by
        rw [← HL2.out]
        have h := HIG.out
        cases e1 : (k == 1)
        · rfl
        · rw [e1] at h
          simp only [Bool.true_and, Bool.not_eq_false'] at h
          simp only [if_true, addW]
          rw [if_pos h])
      go_wp2_with fail
      go_meet
      exact ⟨rfl, ⟨u, hide (by rw [E2.out]; exact S1.out)⟩, BP, hide (Chg.refl _ _)⟩
    · have E2 : Hid (l2 = l ++ [s]) := hide (by
        rw [← HL2.out]
        have h := HIG.out
        simp only [Bool.and_eq_true, Bool.not_eq_true'] at h
        rw [if_pos h.1]
        unfold addW
        rw [h.2]
        rfl)
      have p1 : w1.cell? ⟨P, 1, none⟩ = some (.string s) := blk_cell BP.out 1
      have cm := S1.out.cm
      obtain ⟨w2, up, SM2, gu⟩ := S1.out.mp.put (by have := HL2L.out; omega) HSW.out
      have SM2 := hide SM2
      have BP2 := hide (gu.blkS (by have := S1.out.lt; have := HBW.out; have := HP.out; omega) BP.out)
      have BO2 := hide (gu.blkS (fun e => S1.out.ne.2.2.2.2 e) S1.out.bo)
      have O2 := hide (own_chgS S1.out.own gu (fun x hx e => by have := S1.out.lt; omega))
      have CM2 := hide (gu.cell (fun e => S1.out.ne.2.1 e) S1.out.cm)
      have CF2 := hide (gu.cell (fun e => S1.out.ne.2.2.2.1 e) S1.out.cf)
      have GU := hide gu
      have LTE := hide (And.intro S1.out.lt S1.out.ne)
      clear gu
      go_upto_region 3 with fail
      clear p1 cm up S1 BP
      have p1 : w2.cell? ⟨P, 1, none⟩ = some (.string s) := blk_cell BP2.out 1
      have o0 := blk_cell BO2.out 0
      simp only [List.getElem?_toArray, List.getElem?_cons_zero] at o0
      obtain ⟨ua, uc, rfl, _⟩ := row_cell O2.out
      have GA := al w2 (.cells #[.string s] 9)
      have O9 := hide (own_chgS O2.out GA (fun _ _ h => h))
      have NB := hide (World.news_of_block (cs := #[.string s]) (t := 9) (fr := (0, 0)) (heap_alloc_new w2 _))
      have GA2 := hide GA
      have P9 : B ≤ (w2.alloc (.cells #[.string s] 9)).heap.size := by have := GA2.out.size; have := GU.out.size; have := LTE.out.1.2.2.2.2; omega
      have BO9 := hide (GA.blk BO2.out)
      have LL : l.length ≤ 900000 := HL2L.out
      have PA9 := hide (GA.blk BP2.out)
      clear GA
      go_wp2_with (at_builtin; refine wpList_append_lies _ rfl _ _ 39 rfl B 9 i0 (.string ⟨#[]⟩) 1 16 Try.underlying39 hi0 ‹_› hz1 hz2 rfl (by decide) _ l.length (l.map .string) rfl O9.out ⟨w2.heap.size, 0, none⟩ 1 1 [.string s] rfl rfl NB.out (by simp [Value.oneCell']) (by omega) (by simp [maxLen]; omega) (by omega) P9 (w2.heap.size + 1) (by simp) ?_; intro gg cap2 w10 hown hgrow hgat hglt; have g10 := own_grow_chg O9.out hgrow; have B10 := hide (g10.blkS (by have := LTE.out.1; omega) BO9.out); have bf0 := blk_free B10.out 0; have bc0 := blk_cell B10.out 0)
      clear bf0 bc0
      have PX := hide ((own_grow_chgS O9.out hgrow).blkS (fun e => by have := OLT.out P e; have := HP.out; omega) PA9.out)
      have OF : Hid (w10.ownsRow B 9 1 (.slice (some ⟨gg, 0, none⟩) (l.length + 1) cap2) l2.length (l2.map .string)) := hide (by rw [E2.out, List.length_append, List.map_append]; exact hown)
      have GS := Chg.set w10 O 0 (.slice (some ⟨gg, 0, none⟩) (l.length + 1) cap2)
      have GT := hide ((GA2.out.mono (T := fun x => B ≤ x) (fun x _ h => h.elim)).trans g10)
      have EL2 : l2.length = l.length + 1 := by rw [E2.out]; simp
      have SMF : Hid (SM (w10.setCell ⟨O, 0, none⟩ (.slice (some ⟨gg, 0, none⟩) (l.length + 1) cap2)) Bm l2.length l2) := hide (by
        rw [EL2, E2.out]
        exact MS.chg (MS.chg SM2.out GT.out (by have := LTE.out.1; omega)) GS (fun e => LTE.out.2.2.2.2.2 e.symm))
      go_meet
      refine ⟨rfl, ⟨_, hide ⟨GS.cell (fun e => LTE.out.2.1 e) (GT.out.cell (by have := LTE.out.1; omega) CM2.out), blk_set B10.out 0 _, GS.cell (fun e => LTE.out.2.2.2.1 e) (GT.out.cell (by have := LTE.out.1; omega) CF2.out), SMF.out, own_chgS OF.out GS (fun x hx e => by have := LTE.out.1; omega), ⟨LTE.out.1.1, LTE.out.1.2.1, LTE.out.1.2.2.1, LTE.out.1.2.2.2.1, by have := GS.size; have := GT.out.size; have := GU.out.size; have := LTE.out.1.2.2.2.2; omega⟩, LTE.out.2⟩⟩, ?_, ?_⟩
      · exact hide (GS.blkS (by have := LTE.out.1; have := HBW.out; have := HP.out; omega) (PX.out))
      · exact hide (((GU.out.mono (T := NSet O Bm B) (fun x _ h => Or.inr (Or.inl h))).trans (GT.out.mono (fun x _ h => Or.inr (Or.inr h)))).trans (GS.mono (fun x _ h => Or.inl h)))
  case rest =>
  obtain ⟨rfl, ⟨u2, S2⟩, BP2, G2⟩ := hcut
  clear S1 BP HL2 HIG
  have p3 : wc.cell? ⟨P, 3, none⟩ = some (.slice av f.len cap) := blk_cell BP2.out 3
  go_wp2_with fail
  clear p3 BP2
  go_loopw [28] (fun iv wr => ∃ (i : Nat), i ≤ f.len ∧ iv = .int .i64 i ∧ Hid (NmInv w1 wr M O F Bm B f i R)) (fun iv _ => f.len - (intOf iv).toNat)
  case atStart => exact ⟨0, Nat.zero_le _, rfl, hide ⟨u2, l2, S2, G2, hide (by rw [Ns.drop_zero]; exact HR.out), HL3⟩⟩
  case round =>
    obtain ⟨i, hi, rfl, hIN⟩ := hrel
    obtain ⟨ui, li, S3, G3, M3, L3⟩ := hIN.out
    clear hIN S2 G2 HR HL3
    by_cases hlt : i < f.len
    · have i1 : (0 : Int) ≤ (i : Int) := by omega
      have i2 : (i : Int) < (f.len : Int) := by omega
      have i3 : f.len ≤ 900000 := by have := Ns.len_size f; have := HSZ.out; omega
      have hit : i < f.toL.length := by omega
      obtain ⟨la, lc, hlv, hl⟩ := HV.out
      rcases hl with h0 | ⟨b, off, rfl, hg, hl⟩
      · subst h0; exact absurd hlt (Nat.not_lt_zero _)
      injection hlv with e1 e2 e3
      subst e1 e3
      obtain ⟨c0, c1, c2, vi, c3, ti⟩ := lies_get hl i hit
      obtain ⟨ka, kc, rfl, _⟩ := id ti
      have hks := Ns.kid_size f i hit
      have hwz := wsz_get HWZ.out i hit
      have XO : ∀ x, X x → ¬ NSet O Bm B x := fun x hx e => by have := HX.out x hx; rcases e with e | e | e <;> omega
      have WC := (GG.out.mono (T := NSet O Bm B) (fun x _ h => h.elim)).trans G3.out
      have d0 := WC.cell (XO b hg) c0
      have d1 := WC.cell (XO b hg) c1
      have d2 := WC.cell (XO b hg) c2
      have d3 := WC.cell (XO b hg) c3
      have TI := hide (ti.chg WC XO)
      have ST : Hid (nmsR (f.drop (i + 1)) (nmsN (f.toL[i]).kind (f.toL[i]).word (f.toL[i]).kids li) = R) := hide (by
        have h := M3.out
        rw [Ns.drop_get f i hit] at h
        exact h)
      have LB : Hid (li.length + (f.toL[i]).kids.size ≤ 900000) := hide (by
        have h1 := L3.out
        rw [Ns.drop_get f i hit] at h1
        simp only [Ns.size] at h1
        have h2 : (f.toL[i]).kids = (f.toL[i]).2.2.2 := rfl
        rw [h2]
        omega)
      have LC : Hid ((nmsN (f.toL[i]).kind (f.toL[i]).word (f.toL[i]).kids li).length + (f.drop (i + 1)).size ≤ 900001) := hide (by
        have h1 := L3.out
        rw [Ns.drop_get f i hit] at h1
        simp only [Ns.size] at h1
        have h2 := nmsN_le (f.toL[i]).kind (f.toL[i]).word (f.toL[i]).kids li
        have h3 : (f.toL[i]).kids = (f.toL[i]).2.2.2 := rfl
        rw [h3] at h2 ⊢
        omega)
      have KI := hide (fun w' (g : Chg (fun _ => False) wr w') => IH.out (f.toL[i]).kids (by have := HF.out; omega) li (f.toL[i]).kind (f.toL[i]).word (f.toL[i]).at _ _ X M O F Bm B w' hwz.1 hwz.2 LB.out HX.out (TI.out.chg g (fun _ _ h => h)) (S3.out.chg g))
      clear hl c0 c1 c2 c3 ti WC M3 hks XO TI LB hwz
      dsimp only [Nd.kind, Nd.word, Nd.at, Nd.kids] at d0 d1 d2 d3 KI ST LC
      generalize nmsN (f.toL[i]).1 (f.toL[i]).2.1 (f.toL[i]).2.2.2 li = l3 at *
      generalize (f.toL[i]).1 = n0 at *
      generalize (f.toL[i]).2.1 = n1 at *
      generalize (f.toL[i]).2.2.1 = n2 at *
      generalize (f.toL[i]).2.2.2 = n3 at *
      have GA := al wr (.cells #[.int .i64 n0, .string n1, .int .i64 n2, .slice ka n3.len kc] 51)
      have NB := blk_new wr (.cells #[.int .i64 n0, .string n1, .int .i64 n2, .slice ka n3.len kc] 51)
      have y0 := blk_cell NB 0
      have y1 := blk_cell NB 1
      have y2 := blk_cell NB 2
      have y3 := blk_cell NB 3
      have cf := GA.cell (fun h => h) S3.out.cf
      have KJ := hide (KI.out _ GA)
      have CA := hide (G3.out.trans GA.none)
      clear GA KI NB
      go_wp2_with fail
      refine KJ.out.mono ?_
      rintro e w6 ⟨rfl, v6, S6, g6⟩
      have F9 : Hid (NmInv w1 w6 M O F Bm B f (i + 1) R) := hide ⟨v6, l3, S6, hide (CA.out.trans g6.out), ST, LC⟩
      clear g6 KJ S6 y0 y1 y2 y3 cf
      go_wp2_with fail
      go_roundw
      case rel => exact ⟨i + 1, by omega, by go_num, F9⟩
      case measure => simp [intOf]; omega
    · have hif : i = f.len := by omega
      have ER : Hid (R = li) := hide (by
        have h := M3.out
        rw [hif, Ns.drop_all] at h
        exact h.symm)
      have SF : Hid (NSt wr M O F Bm B ui R) := hide (by rw [ER.out]; exact S3.out)
      have GX := hide ((GG.out.mono (T := NSet O Bm B) (fun x _ h => h.elim)).trans G3.out)
      clear M3 HV IH S3 G3
      have i2 : decide (i < f.len) = false := by simp [hlt]
      subst hif
      go_wp2_with fail
      go_end0
      exact ⟨rfl, ui, SF, GX⟩

theorem names_all (n : Nat) : ∀ f : Ns, f.size ≤ n → NmC f := by
  induction n with
  | zero => exact fun f hf => names_step 0 (fun g hg => absurd hg (Nat.not_lt_zero _)) f hf
  | succ n ih => exact fun f hf => names_step (n + 1) (fun g hg => ih g (by omega)) f hf
theorem names1_any (f : Ns) : NmC f := names_all f.size f (Nat.le_refl _)
end Go.Proofs.Ytboeeaekhijboaa
namespace Go.Proofs.Ytboeeaekhijboaa
open Go.RowKit Go.Maps
set_option linter.unusedVariables false
set_option linter.unusedSimpArgs false

set_option maxRecDepth 100000 in
set_option maxHeartbeats 32000000 in
theorem names_any (f : Ns) (hsz : f.size ≤ 900000) (hwz : Wsz f) (v : Value) (X : Nat → Prop) (w : World) (hX : ∀ x, X x → x < w.heap.size) (hv : Ts w X v f) :
    Calls Try.prog 21 #[v] w fun e w' => (∃ u, e = .returned u ∧ Sw w' (fun x => w.heap.size ≤ x ∧ x < w'.heap.size) u (nmsR f [])) ∧ Chg (fun _ => False) w w' := by
  obtain ⟨R, hR⟩ : ∃ R, nmsR f [] = R := ⟨_, rfl⟩
  rw [hR]
  have HR := hide hR
  have HX := hide hX
  have HSZ := hide hsz
  have HWZ := hide hwz
  obtain ⟨av, cap, rfl, _⟩ := id hv
  have HV := hide hv
  have htl := Ns.toL_len f
  have hmm := @run_makeMap Try.prog
  have MM := SM.made w
  have GA := al w (.map #[] 0)
  have GB := al (w.alloc (.map #[] 0)) (.cells #[.map (some w.heap.size)] 97)
  have NB := blk_new (w.alloc (.map #[] 0)) (.cells #[.map (some w.heap.size)] 97)
  have GC := al ((w.alloc (.map #[] 0)).alloc (.cells #[.map (some w.heap.size)] 97)) (.cells #[.slice none 0 0] 39)
  have NC := blk_new ((w.alloc (.map #[] 0)).alloc (.cells #[.map (some w.heap.size)] 97)) (.cells #[.slice none 0 0] 39)
  have GD := al (((w.alloc (.map #[] 0)).alloc (.cells #[.map (some w.heap.size)] 97)).alloc (.cells #[.slice none 0 0] 39)) (.cells #[fnV (w.heap.size + 1) (w.heap.size + 1 + 1) (w.heap.size + 1 + 1 + 1)] 98)
  have ND := blk_new (((w.alloc (.map #[] 0)).alloc (.cells #[.map (some w.heap.size)] 97)).alloc (.cells #[.slice none 0 0] 39)) (.cells #[fnV (w.heap.size + 1) (w.heap.size + 1 + 1) (w.heap.size + 1 + 1 + 1)] 98)
  have z1 := al_sz w (.map #[] 0)
  have z2 := al_sz (w.alloc (.map #[] 0)) (.cells #[.map (some w.heap.size)] 97)
  have z3 := al_sz ((w.alloc (.map #[] 0)).alloc (.cells #[.map (some w.heap.size)] 97)) (.cells #[.slice none 0 0] 39)
  have z4 := al_sz (((w.alloc (.map #[] 0)).alloc (.cells #[.map (some w.heap.size)] 97)).alloc (.cells #[.slice none 0 0] 39)) (.cells #[fnV (w.heap.size + 1) (w.heap.size + 1 + 1) (w.heap.size + 1 + 1 + 1)] 98)
  rw [z1] at z2 NB
  rw [z2] at z3 NC
  rw [z3] at z4 ND
  have S5 : Hid (NSt (((((w.alloc (.map #[] 0)).alloc (.cells #[.map (some w.heap.size)] 97)).alloc (.cells #[.slice none 0 0] 39)).alloc (.cells #[fnV (w.heap.size + 1) (w.heap.size + 1 + 1) (w.heap.size + 1 + 1 + 1)] 98))) (w.heap.size + 1) (w.heap.size + 1 + 1) (w.heap.size + 1 + 1 + 1) w.heap.size (w.heap.size + 1 + 1 + 1 + 1) (.slice none 0 0) []) := hide
    ⟨GD.cell (fun h => h) (GC.cell (fun h => h) (blk_cell NB 0)), GD.blk NC, blk_cell ND 0,
      MS.chg (MS.chg (MS.chg MM GB (fun h => h)) GC (fun h => h)) GD (fun h => h), World.ownsRow_nil _ _ _ _, ⟨by omega, by omega, by omega, by omega, by omega⟩, by omega, by omega, by omega, by omega, by omega⟩
  have G5 : Hid (Chg (fun _ => False) w (((((w.alloc (.map #[] 0)).alloc (.cells #[.map (some w.heap.size)] 97)).alloc (.cells #[.slice none 0 0] 39)).alloc (.cells #[fnV (w.heap.size + 1) (w.heap.size + 1 + 1) (w.heap.size + 1 + 1 + 1)] 98)))) := hide (((GA.trans GB).trans GC).trans GD)
  clear hv hR hsz hwz hX MM GA GB GC GD NB NC ND z1 z2 z3 z4
  go_enter Try.func21, Try.ntmps21
  go_upto_block 0 with fail
  clear hmm
  generalize ((((w.alloc (.map #[] 0)).alloc (.cells #[.map (some w.heap.size)] 97)).alloc (.cells #[.slice none 0 0] 39)).alloc (.cells #[fnV (w.heap.size + 1) (w.heap.size + 1 + 1) (w.heap.size + 1 + 1 + 1)] 98)) = w5 at *
  obtain ⟨b, hb⟩ : ∃ b, w.heap.size = b := ⟨_, rfl⟩
  have HB := hide hb
  rw [hb] at S5 ⊢
  have HX := hide (fun x (h : X x) => (by have := HX.out x h; omega : x < b))
  clear hb
  obtain ⟨M, hM⟩ : ∃ M, b + 1 = M := ⟨_, rfl⟩
  obtain ⟨O, hO⟩ : ∃ O, M + 1 = O := ⟨_, rfl⟩
  obtain ⟨F, hF⟩ : ∃ F, O + 1 = F := ⟨_, rfl⟩
  obtain ⟨B, hB⟩ : ∃ B, F + 1 = B := ⟨_, rfl⟩
  rw [hM, hO, hF] at S5 ⊢
  rw [hB] at S5
  have ORD := hide (show b < M ∧ M < O ∧ O < F ∧ F < B from by omega)
  clear hM hO hF hB
  go_wp2_with fail
  go_loopw [12] (fun iv wr => ∃ (i : Nat), i ≤ f.len ∧ iv = .int .i64 i ∧ Hid (NmInv w5 wr M O F b B f i R)) (fun iv _ => f.len - (intOf iv).toNat)
  case atStart => exact ⟨0, Nat.zero_le _, rfl, hide ⟨_, [], S5, hide (Chg.refl _ _), hide (by rw [Ns.drop_zero]; exact HR.out), hide (by rw [Ns.drop_zero]; have := HSZ.out; show 0 + f.size ≤ 900001; omega)⟩⟩
  case round =>
    obtain ⟨i, hi, rfl, hIN⟩ := hrel
    obtain ⟨ui, li, S3, G3, M3, L3⟩ := hIN.out
    clear hIN HR S5
    by_cases hlt : i < f.len
    · have i1 : (0 : Int) ≤ (i : Int) := by omega
      have i2 : (i : Int) < (f.len : Int) := by omega
      have i3 : f.len ≤ 900000 := by have := Ns.len_size f; have := HSZ.out; omega
      have hit : i < f.toL.length := by omega
      obtain ⟨la, lc, hlv, hl⟩ := HV.out
      rcases hl with h0 | ⟨g, off, rfl, hg, hl⟩
      · subst h0; exact absurd hlt (Nat.not_lt_zero _)
      injection hlv with e1 e2 e3
      subst e1 e3
      obtain ⟨c0, c1, c2, vi, c3, ti⟩ := lies_get hl i hit
      obtain ⟨ka, kc, rfl, _⟩ := id ti
      have hwz := wsz_get HWZ.out i hit
      have XO : ∀ x, X x → ¬ NSet O b B x := fun x hx e => by have := HX.out x hx; have := ORD.out; rcases e with e | e | e <;> omega
      have XB : ∀ x, X x → x < B ∧ ¬ x = O ∧ ¬ x = b := fun x hx => by have := HX.out x hx; have := ORD.out; omega
      have WC := (G5.out.mono (T := NSet O b B) (fun x _ h => h.elim)).trans G3.out
      have d0 := WC.cell (XO g hg) c0
      have d1 := WC.cell (XO g hg) c1
      have d2 := WC.cell (XO g hg) c2
      have d3 := WC.cell (XO g hg) c3
      have TI := hide (ti.chg WC XO)
      have ST : Hid (nmsR (f.drop (i + 1)) (nmsN (f.toL[i]).kind (f.toL[i]).word (f.toL[i]).kids li) = R) := hide (by
        have h := M3.out
        rw [Ns.drop_get f i hit] at h
        exact h)
      have LB : Hid (li.length + (f.toL[i]).kids.size ≤ 900000) := hide (by
        have h1 := L3.out
        rw [Ns.drop_get f i hit] at h1
        simp only [Ns.size] at h1
        have h2 : (f.toL[i]).kids = (f.toL[i]).2.2.2 := rfl
        rw [h2]
        omega)
      have LC : Hid ((nmsN (f.toL[i]).kind (f.toL[i]).word (f.toL[i]).kids li).length + (f.drop (i + 1)).size ≤ 900001) := hide (by
        have h1 := L3.out
        rw [Ns.drop_get f i hit] at h1
        simp only [Ns.size] at h1
        have h2 := nmsN_le (f.toL[i]).kind (f.toL[i]).word (f.toL[i]).kids li
        have h3 : (f.toL[i]).kids = (f.toL[i]).2.2.2 := rfl
        rw [h3] at h2 ⊢
        omega)
      have KI := hide (fun w' (gg : Chg (fun _ => False) wr w') => names1_any (f.toL[i]).kids li (f.toL[i]).kind (f.toL[i]).word (f.toL[i]).at _ _ X M O F b B w' hwz.1 hwz.2 LB.out XB (TI.out.chg gg (fun _ _ h => h)) (S3.out.chg gg))
      clear hl c0 c1 c2 c3 ti WC M3 XO XB TI LB hwz
      dsimp only [Nd.kind, Nd.word, Nd.at, Nd.kids] at d0 d1 d2 d3 KI ST LC
      generalize nmsN (f.toL[i]).1 (f.toL[i]).2.1 (f.toL[i]).2.2.2 li = l3 at *
      generalize (f.toL[i]).1 = n0 at *
      generalize (f.toL[i]).2.1 = n1 at *
      generalize (f.toL[i]).2.2.1 = n2 at *
      generalize (f.toL[i]).2.2.2 = n3 at *
      have GA := al wr (.cells #[.int .i64 n0, .string n1, .int .i64 n2, .slice ka n3.len kc] 51)
      have NB := blk_new wr (.cells #[.int .i64 n0, .string n1, .int .i64 n2, .slice ka n3.len kc] 51)
      have y0 := blk_cell NB 0
      have y1 := blk_cell NB 1
      have y2 := blk_cell NB 2
      have y3 := blk_cell NB 3
      have cf := GA.cell (fun h => h) S3.out.cf
      have KJ := hide (KI.out _ GA)
      have CA := hide (G3.out.trans GA.none)
      clear GA KI NB
      go_wp2_with fail
      refine KJ.out.mono ?_
      rintro e w6 ⟨rfl, v6, S6, g6⟩
      have F9 : Hid (NmInv w5 w6 M O F b B f (i + 1) R) := hide ⟨v6, l3, S6, hide (CA.out.trans g6.out), ST, LC⟩
      clear g6 KJ S6 y0 y1 y2 y3 cf
      go_wp2_with fail
      go_roundw
      case rel => exact ⟨i + 1, by omega, by go_num, F9⟩
      case measure => simp [intOf]; omega
    · have hif : i = f.len := by omega
      have ER : Hid (R = li) := hide (by
        have h := M3.out
        rw [hif, Ns.drop_all] at h
        exact h.symm)
      have SF : Hid (NSt wr M O F b B ui R) := hide (by rw [ER.out]; exact S3.out)
      have GX : Hid (Chg (fun _ => False) w wr) := hide (((G5.out.mono (T := NSet O b B) (fun x _ h => h.elim)).trans G3.out).mono (fun x hx e => by have := ORD.out; have := HB.out; rcases e with e | e | e <;> omega))
      have LF : Hid (Sw wr (fun x => w.heap.size ≤ x ∧ x < wr.heap.size) ui R) := hide (sw_own SF.out.own (fun r e => by have := World.ownsRow.lt SF.out.own r e; have := ORD.out; have := HB.out; omega))
      have o0 := blk_cell SF.out.bo 0
      simp only [List.getElem?_toArray, List.getElem?_cons_zero] at o0
      obtain ⟨ua, uc, rfl, _⟩ := row_cell SF.out.own
      clear M3 HV S3 G3 SF
      have i2 : decide (i < f.len) = false := by simp [hlt]
      subst hif
      go_wp2_with fail
      go_ret
      exact ⟨⟨_, rfl, LF.out⟩, GX.out⟩
end Go.Proofs.Ytboeeaekhijboaa
