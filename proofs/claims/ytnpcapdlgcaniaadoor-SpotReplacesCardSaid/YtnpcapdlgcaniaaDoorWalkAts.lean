/- SpotAts' walk. -/
import Derived.Test.YtnpcapdlgcaniaaDoorKnown
import Derived.Test.YtnpcapdlgcaniaaDoorReplace
import Derived.Test.YtnpcapdlgcaniaaDoorOf06
import Derived.Test.YtnpcapdlgcaniaaDoorSame06
import Derived.Test.YtnpcapdlgcaniaaDoorFew06
import Derived.Test.YtnpcapdlgcaniaaDoorOpensT
import Derived.Test.YtnpcapdlgcaniaaDoorLaid
import Derived.Deep.DeepCutAuto
import Derived.Deep.CutBlock
namespace Go.Proofs.YtnpcapdlgcaniaaDoor
open Go.RowKit
set_option linter.unusedVariables false
set_option linter.unusedSimpArgs false

theorem tv_new {w' : World} {b : Nat} {v : Value} {t : Tm} (h : TV w' (fun x => b ≤ x ∧ x < w'.heap.size) v t) : TV w' (fun x => x < w'.heap.size) v t := h.up (fun x hx => hx.2)
theorem repl_self : ∀ (p : List Int) (t x : Tm) (l : Fs), atR t p = some (x, l) → replG t (.nil, x.kd, x.ix, x.ag) p = some t
  | [], t, x, l, h => by
    cases h
    rfl
  | i :: p, t, x, l, h => by
    simp only [atR] at h
    cases hs : t.sub i with
    | none => rw [hs] at h; cases h
    | some s =>
      rw [hs] at h
      obtain ⟨⟨z, l'⟩, hz, e⟩ := Option.map_eq_some_iff.1 h
      simp only [Prod.mk.injEq] at e
      obtain ⟨rfl, _⟩ := e
      have h1 := repl_self p s z l' hz
      obtain ⟨m, hm, rfl, rfl⟩ := sub_kid hs
      simp only [replG]
      rw [hs]
      simp only [h1, Option.map_some, Int.toNat_natCast, Tms.setT, List.set_getElem_self, Tms.ofL_toL]
/-- what Few says of a term -/
theorem few_ok {t : Tm} (h1 : In64' t.ix) (h2 : TIn t.ag) (h : 1 + t.bs.size + t.ag.size ≤ 150) : TmOk t := by
  have := Tms.len_size t.ag
  exact ⟨by omega, h1, by omega, tok_of h2 (by omega), by omega⟩
/-- a path that is cut at a hundred -/
theorem ip_take {w : World} {x : IsIn} {v : Value} (h : IsIs w v x) (n : Nat) : Ip w (.slice x.a (x.l.take n).length x.c) (x.l.take n) := by
  obtain ⟨_, h1, h2, _, ⟨a, c, e, h3⟩, _⟩ := h
  injection e with e1 e2 e3
  subst e1 e3
  refine ⟨_, _, rfl, by rw [List.length_take]; omega, h2, ?_⟩
  rcases h3 with h3 | ⟨g, off, e1, h4, h5⟩
  · exact Or.inl (by rw [h3]; simp)
  · exact Or.inr ⟨g, off, e1, h4, fun i hi => by
      rw [List.length_take] at hi
      rw [List.getElem_take]
      exact h5 i (by omega)⟩
theorem take_min' (l : List Int) (n : Nat) : l.take n = l.take (min l.length n) := by
  by_cases h : n ≤ l.length
  · rw [Nat.min_eq_right h]
  · rw [Nat.min_eq_left (by omega), List.take_length, List.take_of_length_le (by omega)]

/-- the term itself, put back -/
theorem rp_self (t y : Tm) (p : List Int) (v bv u : Value) (X : Nat → Prop) (w : World) (ok : TmOk t) (rs : replG t (.nil, y.kd, y.ix, y.ag) p = some t) (hX : ∀ x, X x → x < w.heap.size) (hv : TV w X v t) (hb : TV w X bv (.nil, y.kd, y.ix, y.ag)) (hu : Ip w u p) :
    Calls Tryd.prog 17 #[v, bv, u] w fun e w' => (∃ v', e = .returned (.tuple #[v', .int .i64 0]) ∧ TV w' (New X w w') v' t) ∧ Chg (fun _ => False) w w' := by
  have e1 : rpT t (.nil, y.kd, y.ix, y.ag) p = some t := by unfold rpT; rw [if_neg (by simp [Tm.bs, Fs.len])]; exact rs
  have e2 : rpE t (.nil, y.kd, y.ix, y.ag) p = 0 := by unfold rpE; rw [if_neg (by simp [Tm.bs, Fs.len]), rs]; rfl
  have h := replace_any t (.nil, y.kd, y.ix, y.ag) p v bv u X w ok (fun z hz => by rw [rs] at hz; cases hz; exact ok) hX hv hb hu
  rw [e1, e2] at h
  exact h
theorem TmOk.nil : TmOk (.nil, 0, 0, .nil) := ⟨Nat.zero_le _, by unfold In64'; decide, Nat.zero_le _, trivial, Nat.zero_le _⟩

set_option maxRecDepth 100000 in
set_option maxHeartbeats 32000000 in
theorem ats_walk (t : Tm) (x : IsIn) (v u : Value) (w : World) (ht : TmIs w v t) (hx : IsIs w u x) :
    Calls Tryd.prog 3 #[v, u] w fun e w' => e = .returned (.bool true) ∧ Chg (fun _ => False) w w' := by
  obtain ⟨hv, hin1, hin2, hin3⟩ := ht
  have IP := hide (ip_take hx 100)
  obtain ⟨hxe, hx1, hx2, hx3, _, _⟩ := hx
  subst hxe
  obtain ⟨k1, hk1⟩ : ∃ k1, k1 = min x.l.length 100 := ⟨_, rfl⟩
  have e1 : min (x.l.length : Int) 100 = (k1 : Int) := by omega
  have q1 : k1 ≤ x.c := by omega
  have L1 : Hid (k1 = (x.l.take 100).length) := hide (by rw [List.length_take, hk1]; omega)
  have hp100 : Hid ((x.l.take 100).length ≤ 100) := hide (by rw [List.length_take]; omega)
  rw [← L1.out] at IP
  clear hk1 hx3 hx1 hx2
  generalize x.l.take 100 = p at *
  generalize x.l.length = xl at *
  generalize x.a = xa at *
  generalize x.c = xc at *
  obtain ⟨b, k, i, f⟩ := t
  obtain ⟨ba, bc, a, cap, rfl, h1, h2⟩ := hv
  dsimp only [Tm.bs, Tm.kd, Tm.ix, Tm.ag] at *
  have OK0 := hide (fun (h : 1 + b.size + f.size ≤ 150) => few_ok (t := (b, k, i, f)) hin2 hin3 h)
  have T0 : Hid (TV w (fun x => x < w.heap.size) (.agg #[.slice ba b.len bc, .int .i64 k, .int .i64 i, .slice a f.len cap]) (b, k, i, f)) := hide ⟨ba, bc, a, cap, rfl, h1, h2⟩
  have G1 := al w (.cells #[.slice ba b.len bc, .int .i64 k, .int .i64 i, .slice a f.len cap] 27)
  have b0 := blk_new w (.cells #[.slice ba b.len bc, .int .i64 k, .int .i64 i, .slice a f.len cap] 27)
  have G2 := al (w.alloc (.cells #[.slice ba b.len bc, .int .i64 k, .int .i64 i, .slice a f.len cap] 27)) (.cells #[.slice ba b.len bc, .int .i64 k, .int .i64 i, .slice a f.len cap] 27)
  have b1 := blk_new (w.alloc (.cells #[.slice ba b.len bc, .int .i64 k, .int .i64 i, .slice a f.len cap] 27)) (.cells #[.slice ba b.len bc, .int .i64 k, .int .i64 i, .slice a f.len cap] 27)
  have b0' := G2.blk (fun h => h) b0
  rw [al_sz] at b1
  have GG := hide (G1.trans G2)
  have BP := hide b0'
  have sz2 : ((w.alloc (.cells #[.slice ba b.len bc, .int .i64 k, .int .i64 i, .slice a f.len cap] 27)).alloc (.cells #[.slice ba b.len bc, .int .i64 k, .int .i64 i, .slice a f.len cap] 27)).heap.size = w.heap.size + 2 := by rw [al_sz, al_sz]
  have FW := hide (L06Few_any (.cons b k i f .nil) (by simp only [Tms.len]; omega) (.slice (some ⟨w.heap.size + 1, 0, none⟩) 1 1) (fun x => x < ((w.alloc (.cells #[.slice ba b.len bc, .int .i64 k, .int .i64 i, .slice a f.len cap] 27)).alloc (.cells #[.slice ba b.len bc, .int .i64 k, .int .i64 i, .slice a f.len cap] 27)).heap.size) ((w.alloc (.cells #[.slice ba b.len bc, .int .i64 k, .int .i64 i, .slice a f.len cap] 27)).alloc (.cells #[.slice ba b.len bc, .int .i64 k, .int .i64 i, .slice a f.len cap] 27)) (fun x h => h) ⟨_, 1, rfl, Or.inr ⟨w.heap.size + 1, 0, rfl, by rw [sz2]; omega, tlies_cons.2 ⟨⟨_, blk_cell b1 0, h1.all (G1.trans G2)⟩, blk_cell b1 1, blk_cell b1 2, ⟨_, blk_cell b1 3, h2.all (G1.trans G2)⟩, trivial⟩⟩⟩)
  have SZ := hide sz2
  have c0 := blk_cell b0 0
  have c1 := blk_cell b0 1
  have c2 := blk_cell b0 2
  have c3 := blk_cell b0 3
  simp only [List.getElem?_toArray, List.getElem?_cons_zero, List.getElem?_cons_succ] at c0 c1 c2 c3
  clear G1 G2 b0 b1 b0' sz2 h1 h2 hin1 hin2 hin3
  go_enter Tryd.func3, Tryd.ntmps3
  go_wp2_with fail
  generalize ((w.alloc (.cells #[.slice ba b.len bc, .int .i64 k, .int .i64 i, .slice a f.len cap] 27)).alloc (.cells #[.slice ba b.len bc, .int .i64 k, .int .i64 i, .slice a f.len cap] 27)) = w1 at *
  refine FW.out.mono ?_
  rintro e w3 ⟨⟨r, rfl, hr⟩, g3⟩
  obtain ⟨P, hP⟩ : ∃ P, w.heap.size = P := ⟨_, rfl⟩
  rw [hP] at BP ⊢
  have HP : Hid (P < w1.heap.size ∧ w.heap.size = P) := hide ⟨by have := SZ.out; omega, hP⟩
  have G3 := hide (GG.out.trans g3)
  have BP3 := hide (g3.blk (fun h => h) BP.out)
  have HR := hide hr
  clear g3 hr FW c0 c1 c2 c3 hP GG BP SZ
  cases r
  · go_wp2_with fail
    refine (known_any _).mono ?_
    rintro e w5 ⟨rfl, g5⟩
    have G5 := hide (G3.out.trans g5)
    clear g5
    go_wp2_with fail
    go_ret
    exact ⟨rfl, G5.out⟩
  · have ok : TmOk (b, k, i, f) := OK0.out (HR.out rfl (b, k, i, f) (by simp [Tms.toL]))
    have SMALL : Hid (1 + b.size + f.size ≤ 150) := hide (HR.out rfl (b, k, i, f) (by simp [Tms.toL]))
    have OK := hide ok
    clear ok HR OK0
    have x0 : w3.cell? ⟨P, 0, none⟩ = some (.slice ba b.len bc) := blk_cell BP3.out 0
    have x1 : w3.cell? ⟨P, 1, none⟩ = some (.int .i64 k) := blk_cell BP3.out 1
    have x2 : w3.cell? ⟨P, 2, none⟩ = some (.int .i64 i) := blk_cell BP3.out 2
    have x3 : w3.cell? ⟨P, 3, none⟩ = some (.slice a f.len cap) := blk_cell BP3.out 3
    have TO := hide (to06_any (b, k, i, f) OK.out _ _ w3 (fun x h => h) (T0.out.all G3.out))
    have hl1 := L1.out
    go_wp2_with fail
    refine TO.out.mono ?_
    rintro e w4 ⟨⟨v', rfl, tv⟩, g4⟩
    obtain ⟨aa, ac, ad, ae, rfl, ta1, ta2⟩ := id tv
    dsimp only [Tm.bs, Tm.kd, Tm.ix, Tm.ag] at ta1 ta2 ⊢
    have GA := al w4 (.cells #[.slice aa b.len ac, .int .i64 k, .int .i64 i, .slice ad f.len ae] 35)
    have BA := hide (blk_new w4 (.cells #[.slice aa b.len ac, .int .i64 k, .int .i64 i, .slice ad f.len ae] 35))
    have G5 := hide ((G3.out.trans g4).trans GA)
    have BP5 := hide ((g4.trans GA).blk (fun h => h) BP3.out)
    have TA := hide ((tv_new tv).all GA)
    have IP5 := hide (IP.out.all G5.out)
    have T5 := hide (T0.out.all G5.out)
    have SA : Hid (w4.heap.size < (w4.alloc (.cells #[.slice aa b.len ac, .int .i64 k, .int .i64 i, .slice ad f.len ae] 35)).heap.size) := hide (blk_lt BA.out)
    clear tv ta1 ta2 g4 GA x0 x1 x2 x3 TO BP3 G3 hl1 e1 q1
    go_upto_region 5 with fail
    obtain ⟨A, hA⟩ : ∃ A, w4.heap.size = A := ⟨_, rfl⟩
    rw [hA] at BA ⊢
    have HA := hide hA
    clear hA
    generalize w4.alloc (.cells #[.slice aa b.len ac, .int .i64 k, .int .i64 i, .slice ad f.len ae] 35) = w5 at *
    rw [L1.out] at IP5
    clear IP L1
    have x0 : w5.cell? ⟨A, 0, none⟩ = some (.slice aa b.len ac) := blk_cell BA.out 0
    have x1 : w5.cell? ⟨A, 1, none⟩ = some (.int .i64 k) := blk_cell BA.out 1
    have x2 : w5.cell? ⟨A, 2, none⟩ = some (.int .i64 i) := blk_cell BA.out 2
    have x3 : w5.cell? ⟨A, 3, none⟩ = some (.slice ad f.len ae) := blk_cell BA.out 3
    have AT := hide (at_any (b, k, i, f) OK.out p (by have := hp100.out; omega) (.agg #[.slice aa b.len ac, .int .i64 k, .int .i64 i, .slice ad f.len ae]) (.slice xa p.length xc) _ w5 (fun x h => h) TA.out IP5.out.il)
    rw [atG_R] at AT
    obtain ⟨RES, hRES⟩ : ∃ RES, atR (b, k, i, f) p = RES := ⟨_, rfl⟩
    rw [hRES] at AT
    have HRES := hide hRES
    clear hRES
    obtain ⟨ev, hev⟩ : ∃ ev, atE RES = ev := ⟨_, rfl⟩
    rw [hev] at AT
    have HEV := hide hev
    clear hev
    go_wp2_with fail
    refine AT.out.mono ?_
    rintro e w6 ⟨⟨v', vl, rfl, tv, tl⟩, g6⟩
    obtain ⟨ba', bc', bd, be, rfl, _, _⟩ := id tv
    obtain ⟨la, lc, rfl, _⟩ := id tl
    dsimp only [Tm.bs, Tm.kd, Tm.ix, Tm.ag]
    have GA := al w6 (.cells #[.slice ba' (RES.getD ((.nil, 0, 0, .nil), .nil)).1.1.len bc', .int .i64 (RES.getD ((.nil, 0, 0, .nil), .nil)).1.2.1, .int .i64 (RES.getD ((.nil, 0, 0, .nil), .nil)).1.2.2.1, .slice bd (RES.getD ((.nil, 0, 0, .nil), .nil)).1.2.2.2.len be] 35)
    have BB := hide (blk_new w6 (.cells #[.slice ba' (RES.getD ((.nil, 0, 0, .nil), .nil)).1.1.len bc', .int .i64 (RES.getD ((.nil, 0, 0, .nil), .nil)).1.2.1, .int .i64 (RES.getD ((.nil, 0, 0, .nil), .nil)).1.2.2.1, .slice bd (RES.getD ((.nil, 0, 0, .nil), .nil)).1.2.2.2.len be] 35))
    have G7 := hide ((G5.out.trans g6).trans GA)
    have BP7 := hide ((g6.trans GA).blk (fun h => h) BP5.out)
    have BA7 := hide ((g6.trans GA).blk (fun h => h) BA.out)
    have TA7 := hide (TA.out.all (g6.trans GA))
    have T7 := hide (T5.out.all (g6.trans GA))
    have IP7 := hide (IP5.out.all (g6.trans GA))
    have TB7 := hide ((tv_new tv).all GA)
    have TL7 := hide (tl.of_new.all GA)
    clear tv tl g6 GA x0 x1 x2 x3 AT BP5 BA TA T5 IP5 G5 T0
    go_upto_region 6 with fail
    obtain ⟨B, hB⟩ : ∃ B, w6.heap.size = B := ⟨_, rfl⟩
    rw [hB] at BB ⊢
    have HB := hide hB
    clear hB
    generalize w6.alloc (.cells #[.slice ba' (RES.getD ((.nil, 0, 0, .nil), .nil)).1.1.len bc', .int .i64 (RES.getD ((.nil, 0, 0, .nil), .nil)).1.2.1, .int .i64 (RES.getD ((.nil, 0, 0, .nil), .nil)).1.2.2.1, .slice bd (RES.getD ((.nil, 0, 0, .nil), .nil)).1.2.2.2.len be] 35) = w7 at *
    have x0 : w7.cell? ⟨P, 0, none⟩ = some (.slice ba b.len bc) := blk_cell BP7.out 0
    have x1 : w7.cell? ⟨P, 1, none⟩ = some (.int .i64 k) := blk_cell BP7.out 1
    have x2 : w7.cell? ⟨P, 2, none⟩ = some (.int .i64 i) := blk_cell BP7.out 2
    have x3 : w7.cell? ⟨P, 3, none⟩ = some (.slice a f.len cap) := blk_cell BP7.out 3
    have RA := hide (rat_any p (b, k, i, f) (.agg #[.slice ba b.len bc, .int .i64 k, .int .i64 i, .slice a f.len cap]) (.slice xa p.length xc) _ w7 OK.out (fun x h => h) T7.out IP7.out)
    rw [HRES.out] at RA
    go_wp2_with fail
    refine RA.out.mono ?_
    rintro e w8 ⟨⟨v', vm, rfl, tv, tm⟩, g8⟩
    obtain ⟨ca, cc, cd, ce, rfl, _, _⟩ := id tv
    obtain ⟨ma, mc, rfl, _⟩ := id tm
    dsimp only [Tm.bs, Tm.kd, Tm.ix, Tm.ag]
    have GA := al w8 (.cells #[.slice ca (RES.getD ((.nil, 0, 0, .nil), .nil)).1.1.len cc, .int .i64 (RES.getD ((.nil, 0, 0, .nil), .nil)).1.2.1, .int .i64 (RES.getD ((.nil, 0, 0, .nil), .nil)).1.2.2.1, .slice cd (RES.getD ((.nil, 0, 0, .nil), .nil)).1.2.2.2.len ce] 27)
    have BC := hide (blk_new w8 (.cells #[.slice ca (RES.getD ((.nil, 0, 0, .nil), .nil)).1.1.len cc, .int .i64 (RES.getD ((.nil, 0, 0, .nil), .nil)).1.2.1, .int .i64 (RES.getD ((.nil, 0, 0, .nil), .nil)).1.2.2.1, .slice cd (RES.getD ((.nil, 0, 0, .nil), .nil)).1.2.2.2.len ce] 27))
    have G9 := hide ((G7.out.trans g8).trans GA)
    have BP9 := hide ((g8.trans GA).blk (fun h => h) BP7.out)
    have BA9 := hide ((g8.trans GA).blk (fun h => h) BA7.out)
    have BB9 := hide ((g8.trans GA).blk (fun h => h) BB.out)
    have TA9 := hide (TA7.out.all (g8.trans GA))
    have T9 := hide (T7.out.all (g8.trans GA))
    have IP9 := hide (IP7.out.all (g8.trans GA))
    have TB9 := hide (TB7.out.all (g8.trans GA))
    have TL9 := hide (TL7.out.all (g8.trans GA))
    have up8 : ∀ x, New (fun x => x < w7.heap.size) w7 w8 x → x < w8.heap.size := fun x hx => by have := g8.size; rcases hx with hx | hx; omega; omega
    have TC9 := hide ((tv.up up8).all GA)
    have TM9 := hide ((tm.up up8).all GA)
    clear tv tm g8 GA up8 x0 x1 x2 x3 RA BP7 BA7 BB TA7 T7 IP7 TB7 TL7 G7
    go_upto_region 7 with fail
    obtain ⟨C, hC⟩ : ∃ C, w8.heap.size = C := ⟨_, rfl⟩
    rw [hC] at BC ⊢
    have HC := hide hC
    clear hC
    generalize w8.alloc (.cells #[.slice ca (RES.getD ((.nil, 0, 0, .nil), .nil)).1.1.len cc, .int .i64 (RES.getD ((.nil, 0, 0, .nil), .nil)).1.2.1, .int .i64 (RES.getD ((.nil, 0, 0, .nil), .nil)).1.2.2.1, .slice cd (RES.getD ((.nil, 0, 0, .nil), .nil)).1.2.2.2.len ce] 27) = w9 at *
    cases RES with
    | none =>
      obtain rfl : ev = 10 := HEV.out.symm
      simp only [Option.getD_none, Option.isSome_none] at *
      dsimp only [Fs.len, Tms.len] at *
      have z0 : w9.cell? ⟨B, 0, none⟩ = some (.slice ba' 0 bc') := blk_cell BB9.out 0
      have z1 : w9.cell? ⟨B, 1, none⟩ = some (.int .i64 0) := blk_cell BB9.out 1
      have z2 : w9.cell? ⟨B, 2, none⟩ = some (.int .i64 0) := blk_cell BB9.out 2
      have z3 : w9.cell? ⟨B, 3, none⟩ = some (.slice bd 0 be) := blk_cell BB9.out 3
      have z4 : w9.cell? ⟨C, 0, none⟩ = some (.slice ca 0 cc) := blk_cell BC.out 0
      have z5 : w9.cell? ⟨C, 1, none⟩ = some (.int .i64 0) := blk_cell BC.out 1
      have z6 : w9.cell? ⟨C, 2, none⟩ = some (.int .i64 0) := blk_cell BC.out 2
      have z7 : w9.cell? ⟨C, 3, none⟩ = some (.slice cd 0 ce) := blk_cell BC.out 3
      go_cut [76] (fun s wx => s = .bool false ∧ Hid (Chg (fun _ => False) w9 wx))
      case first =>
        refine wp_region_held_drew (S := (fun w' => w'.cell? ⟨B, 0, none⟩ = some (.slice ba' 0 bc') ∧ w'.cell? ⟨B, 1, none⟩ = some (.int .i64 0) ∧ w'.cell? ⟨B, 2, none⟩ = some (.int .i64 0) ∧ w'.cell? ⟨B, 3, none⟩ = some (.slice bd 0 be) ∧ w'.cell? ⟨C, 0, none⟩ = some (.slice ca 0 cc) ∧ w'.cell? ⟨C, 1, none⟩ = some (.int .i64 0) ∧ w'.cell? ⟨C, 2, none⟩ = some (.int .i64 0) ∧ w'.cell? ⟨C, 3, none⟩ = some (.slice cd 0 ce))) (by kernel_rfl) (by go_keep) (fun hHeld => ?_)
        refine wpAnyH_ready (rs := [0]) (by kernel_rfl) (by simp) ?_
        refine AllReadyH.cons (i := 0) (o := _) rfl (fun K hK => ?_) ?_
        rotate_left
        · exact AllReadyH.nil
        go_simp
        refine (known_any _).mono ?_
        rintro e w10 ⟨rfl, g'⟩
        have g10 := (Chg.refl (fun _ => False) w9).drew.trans g'
        have z0 := g10.cell (fun h => h) z0
        have z1 := g10.cell (fun h => h) z1
        have z2 := g10.cell (fun h => h) z2
        have z3 := g10.cell (fun h => h) z3
        have z4 := g10.cell (fun h => h) z4
        have z5 := g10.cell (fun h => h) z5
        have z6 := g10.cell (fun h => h) z6
        have z7 := g10.cell (fun h => h) z7
        have G10 := hide g10
        clear g' g10
        go_simp
        refine hK.out _ _ ⟨z0, z1, z2, z3, z4, z5, z6, z7⟩ (fun hHeld => ?_)
        clear hK K
        try simp only [Act.put, List.getElem_toArray, List.getElem_cons_zero, List.getElem_cons_succ, List.setIfInBounds_toArray, List.set_cons_zero, List.set_cons_succ]
        first
          | (refine wpAnyH_take (i := 1) (v := undef) rfl (by kernel_rfl) (by kernel_rfl) (by kernel_rfl) (fun _ _ _ h => h) (Or.inr ⟨by rfl, rfl⟩) (by assumption) ?_)
          | (refine wpAnyH_take (i := 1) (v := ?_) rfl (by kernel_rfl) (by kernel_rfl) (by kernel_rfl) (fun _ _ _ h => h) (Or.inl ⟨by rfl, ?_⟩) (by assumption) ?_
             rotate_left
             (intro w hSw
              (try dsimp only at hSw)
              (go_simp <;> with_reducible rfl)))
        try simp only [Act.put, List.getElem_toArray, List.getElem_cons_zero, List.getElem_cons_succ, List.setIfInBounds_toArray, List.set_cons_zero, List.set_cons_succ]
        first
          | (refine wpAnyH_take (i := 2) (v := undef) rfl (by kernel_rfl) (by kernel_rfl) (by kernel_rfl) (fun _ _ _ h => h) (Or.inr ⟨by rfl, rfl⟩) (by assumption) ?_)
          | (refine wpAnyH_take (i := 2) (v := ?_) rfl (by kernel_rfl) (by kernel_rfl) (by kernel_rfl) (fun _ _ _ h => h) (Or.inl ⟨by rfl, ?_⟩) (by assumption) ?_
             rotate_left
             (intro w hSw
              (try dsimp only at hSw)
              (go_simp <;> with_reducible rfl)))
        try simp only [Act.put, List.getElem_toArray, List.getElem_cons_zero, List.getElem_cons_succ, List.setIfInBounds_toArray, List.set_cons_zero, List.set_cons_succ]
        first
          | (refine wpAnyH_take (i := 3) (v := undef) rfl (by kernel_rfl) (by kernel_rfl) (by kernel_rfl) (fun _ _ _ h => h) (Or.inr ⟨by rfl, rfl⟩) (by assumption) ?_)
          | (refine wpAnyH_take (i := 3) (v := ?_) rfl (by kernel_rfl) (by kernel_rfl) (by kernel_rfl) (fun _ _ _ h => h) (Or.inl ⟨by rfl, ?_⟩) (by assumption) ?_
             rotate_left
             (intro w hSw
              (try dsimp only at hSw)
              (go_simp <;> with_reducible rfl)))
        try simp only [Act.put, List.getElem_toArray, List.getElem_cons_zero, List.getElem_cons_succ, List.setIfInBounds_toArray, List.set_cons_zero, List.set_cons_succ]
        first
          | (refine wpAnyH_take (i := 4) (v := undef) rfl (by kernel_rfl) (by kernel_rfl) (by kernel_rfl) (fun _ _ _ h => h) (Or.inr ⟨by rfl, rfl⟩) (by assumption) ?_)
          | (refine wpAnyH_take (i := 4) (v := ?_) rfl (by kernel_rfl) (by kernel_rfl) (by kernel_rfl) (fun _ _ _ h => h) (Or.inl ⟨by rfl, ?_⟩) (by assumption) ?_
             rotate_left
             (intro w hSw
              (try dsimp only at hSw)
              (go_simp <;> with_reducible rfl)))
        try simp only [Act.put, List.getElem_toArray, List.getElem_cons_zero, List.getElem_cons_succ, List.setIfInBounds_toArray, List.set_cons_zero, List.set_cons_succ]
        first
          | (refine wpAnyH_take (i := 5) (v := undef) rfl (by kernel_rfl) (by kernel_rfl) (by kernel_rfl) (fun _ _ _ h => h) (Or.inr ⟨by rfl, rfl⟩) (by assumption) ?_)
          | (refine wpAnyH_take (i := 5) (v := ?_) rfl (by kernel_rfl) (by kernel_rfl) (by kernel_rfl) (fun _ _ _ h => h) (Or.inl ⟨by rfl, ?_⟩) (by assumption) ?_
             rotate_left
             (intro w hSw
              (try dsimp only at hSw)
              (go_simp <;> with_reducible rfl)))
        try simp only [Act.put, List.getElem_toArray, List.getElem_cons_zero, List.getElem_cons_succ, List.setIfInBounds_toArray, List.set_cons_zero, List.set_cons_succ]
        first
          | (refine wpAnyH_take (i := 6) (v := undef) rfl (by kernel_rfl) (by kernel_rfl) (by kernel_rfl) (fun _ _ _ h => h) (Or.inr ⟨by rfl, rfl⟩) (by assumption) ?_)
          | (refine wpAnyH_take (i := 6) (v := ?_) rfl (by kernel_rfl) (by kernel_rfl) (by kernel_rfl) (fun _ _ _ h => h) (Or.inl ⟨by rfl, ?_⟩) (by assumption) ?_
             rotate_left
             (intro w hSw
              (try dsimp only at hSw)
              (go_simp <;> with_reducible rfl)))
        try simp only [Act.put, List.getElem_toArray, List.getElem_cons_zero, List.getElem_cons_succ, List.setIfInBounds_toArray, List.set_cons_zero, List.set_cons_succ]
        first
          | (refine wpAnyH_take (i := 7) (v := undef) rfl (by kernel_rfl) (by kernel_rfl) (by kernel_rfl) (fun _ _ _ h => h) (Or.inr ⟨by rfl, rfl⟩) (by assumption) ?_)
          | (refine wpAnyH_take (i := 7) (v := ?_) rfl (by kernel_rfl) (by kernel_rfl) (by kernel_rfl) (fun _ _ _ h => h) (Or.inl ⟨by rfl, ?_⟩) (by assumption) ?_
             rotate_left
             (intro w hSw
              (try dsimp only at hSw)
              (go_simp <;> with_reducible rfl)))
        try simp only [Act.put, List.getElem_toArray, List.getElem_cons_zero, List.getElem_cons_succ, List.setIfInBounds_toArray, List.set_cons_zero, List.set_cons_succ]
        first
          | (refine wpAnyH_take (i := 8) (v := undef) rfl (by kernel_rfl) (by kernel_rfl) (by kernel_rfl) (fun _ _ _ h => h) (Or.inr ⟨by rfl, rfl⟩) (by assumption) ?_)
          | (refine wpAnyH_take (i := 8) (v := ?_) rfl (by kernel_rfl) (by kernel_rfl) (by kernel_rfl) (fun _ _ _ h => h) (Or.inl ⟨by rfl, ?_⟩) (by assumption) ?_
             rotate_left
             (intro w hSw
              (try dsimp only at hSw)
              (go_simp <;> with_reducible rfl)))
        try simp only [Act.put, List.getElem_toArray, List.getElem_cons_zero, List.getElem_cons_succ, List.setIfInBounds_toArray, List.set_cons_zero, List.set_cons_succ]
        first
          | (refine wpAnyH_take (i := 9) (v := undef) rfl (by kernel_rfl) (by kernel_rfl) (by kernel_rfl) (fun _ _ _ h => h) (Or.inr ⟨by rfl, rfl⟩) (by assumption) ?_)
          | (refine wpAnyH_take (i := 9) (v := ?_) rfl (by kernel_rfl) (by kernel_rfl) (by kernel_rfl) (fun _ _ _ h => h) (Or.inl ⟨by rfl, ?_⟩) (by assumption) ?_
             rotate_left
             (intro w hSw
              (try dsimp only at hSw)
              (go_simp <;> with_reducible rfl)))
        try simp only [Act.put, List.getElem_toArray, List.getElem_cons_zero, List.getElem_cons_succ, List.setIfInBounds_toArray, List.set_cons_zero, List.set_cons_succ]
        first
          | (refine wpAnyH_take (i := 10) (v := undef) rfl (by kernel_rfl) (by kernel_rfl) (by kernel_rfl) (fun _ _ _ h => h) (Or.inr ⟨by rfl, rfl⟩) (by assumption) ?_)
          | (refine wpAnyH_take (i := 10) (v := ?_) rfl (by kernel_rfl) (by kernel_rfl) (by kernel_rfl) (fun _ _ _ h => h) (Or.inl ⟨by rfl, ?_⟩) (by assumption) ?_
             rotate_left
             (intro w hSw
              (try dsimp only at hSw)
              (go_simp <;> with_reducible rfl)))
        try simp only [Act.put, List.getElem_toArray, List.getElem_cons_zero, List.getElem_cons_succ, List.setIfInBounds_toArray, List.set_cons_zero, List.set_cons_succ]
        first
          | (refine wpAnyH_take (i := 11) (v := undef) rfl (by kernel_rfl) (by kernel_rfl) (by kernel_rfl) (fun _ _ _ h => h) (Or.inr ⟨by rfl, rfl⟩) (by assumption) ?_)
          | (refine wpAnyH_take (i := 11) (v := ?_) rfl (by kernel_rfl) (by kernel_rfl) (by kernel_rfl) (fun _ _ _ h => h) (Or.inl ⟨by rfl, ?_⟩) (by assumption) ?_
             rotate_left
             (intro w hSw
              (try dsimp only at hSw)
              (go_simp <;> with_reducible rfl)))
        try simp only [Act.put, List.getElem_toArray, List.getElem_cons_zero, List.getElem_cons_succ, List.setIfInBounds_toArray, List.set_cons_zero, List.set_cons_succ]
        first
          | (refine wpAnyH_take (i := 12) (v := undef) rfl (by kernel_rfl) (by kernel_rfl) (by kernel_rfl) (fun _ _ _ h => h) (Or.inr ⟨by rfl, rfl⟩) (by assumption) ?_)
          | (refine wpAnyH_take (i := 12) (v := ?_) rfl (by kernel_rfl) (by kernel_rfl) (by kernel_rfl) (fun _ _ _ h => h) (Or.inl ⟨by rfl, ?_⟩) (by assumption) ?_
             rotate_left
             (intro w hSw
              (try dsimp only at hSw)
              (go_simp <;> with_reducible rfl)))
        try simp only [Act.put, List.getElem_toArray, List.getElem_cons_zero, List.getElem_cons_succ, List.setIfInBounds_toArray, List.set_cons_zero, List.set_cons_succ]
        first
          | (refine wpAnyH_take (i := 13) (v := undef) rfl (by kernel_rfl) (by kernel_rfl) (by kernel_rfl) (fun _ _ _ h => h) (Or.inr ⟨by rfl, rfl⟩) (by assumption) ?_)
          | (refine wpAnyH_take (i := 13) (v := ?_) rfl (by kernel_rfl) (by kernel_rfl) (by kernel_rfl) (fun _ _ _ h => h) (Or.inl ⟨by rfl, ?_⟩) (by assumption) ?_
             rotate_left
             (intro w hSw
              (try dsimp only at hSw)
              (go_simp <;> with_reducible rfl)))
        try simp only [Act.put, List.getElem_toArray, List.getElem_cons_zero, List.getElem_cons_succ, List.setIfInBounds_toArray, List.set_cons_zero, List.set_cons_succ]
        first
          | (refine wpAnyH_take (i := 14) (v := undef) rfl (by kernel_rfl) (by kernel_rfl) (by kernel_rfl) (fun _ _ _ h => h) (Or.inr ⟨by rfl, rfl⟩) (by assumption) ?_)
          | (refine wpAnyH_take (i := 14) (v := ?_) rfl (by kernel_rfl) (by kernel_rfl) (by kernel_rfl) (fun _ _ _ h => h) (Or.inl ⟨by rfl, ?_⟩) (by assumption) ?_
             rotate_left
             (intro w hSw
              (try dsimp only at hSw)
              (go_simp <;> with_reducible rfl)))
        try simp only [Act.put, List.getElem_toArray, List.getElem_cons_zero, List.getElem_cons_succ, List.setIfInBounds_toArray, List.set_cons_zero, List.set_cons_succ]
        first
          | (refine wpAnyH_take (i := 15) (v := undef) rfl (by kernel_rfl) (by kernel_rfl) (by kernel_rfl) (fun _ _ _ h => h) (Or.inr ⟨by rfl, rfl⟩) (by assumption) ?_)
          | (refine wpAnyH_take (i := 15) (v := ?_) rfl (by kernel_rfl) (by kernel_rfl) (by kernel_rfl) (fun _ _ _ h => h) (Or.inl ⟨by rfl, ?_⟩) (by assumption) ?_
             rotate_left
             (intro w hSw
              (try dsimp only at hSw)
              (go_simp <;> with_reducible rfl)))
        try simp only [Act.put, List.getElem_toArray, List.getElem_cons_zero, List.getElem_cons_succ, List.setIfInBounds_toArray, List.set_cons_zero, List.set_cons_succ]
        first
          | (refine wpAnyH_take (i := 16) (v := undef) rfl (by kernel_rfl) (by kernel_rfl) (by kernel_rfl) (fun _ _ _ h => h) (Or.inr ⟨by rfl, rfl⟩) (by assumption) ?_)
          | (refine wpAnyH_take (i := 16) (v := ?_) rfl (by kernel_rfl) (by kernel_rfl) (by kernel_rfl) (fun _ _ _ h => h) (Or.inl ⟨by rfl, ?_⟩) (by assumption) ?_
             rotate_left
             (intro w hSw
              (try dsimp only at hSw)
              (go_simp <;> with_reducible rfl)))
        try simp only [Act.put, List.getElem_toArray, List.getElem_cons_zero, List.getElem_cons_succ, List.setIfInBounds_toArray, List.set_cons_zero, List.set_cons_succ]
        first
          | (refine wpAnyH_take (i := 17) (v := undef) rfl (by kernel_rfl) (by kernel_rfl) (by kernel_rfl) (fun _ _ _ h => h) (Or.inr ⟨by rfl, rfl⟩) (by assumption) ?_)
          | (refine wpAnyH_take (i := 17) (v := ?_) rfl (by kernel_rfl) (by kernel_rfl) (by kernel_rfl) (fun _ _ _ h => h) (Or.inl ⟨by rfl, ?_⟩) (by assumption) ?_
             rotate_left
             (intro w hSw
              (try dsimp only at hSw)
              (go_simp <;> with_reducible rfl)))
        try simp only [Act.put, List.getElem_toArray, List.getElem_cons_zero, List.getElem_cons_succ, List.setIfInBounds_toArray, List.set_cons_zero, List.set_cons_succ]
        first
          | (refine wpAnyH_take (i := 18) (v := undef) rfl (by kernel_rfl) (by kernel_rfl) (by kernel_rfl) (fun _ _ _ h => h) (Or.inr ⟨by rfl, rfl⟩) (by assumption) ?_)
          | (refine wpAnyH_take (i := 18) (v := ?_) rfl (by kernel_rfl) (by kernel_rfl) (by kernel_rfl) (fun _ _ _ h => h) (Or.inl ⟨by rfl, ?_⟩) (by assumption) ?_
             rotate_left
             (intro w hSw
              (try dsimp only at hSw)
              (go_simp <;> with_reducible rfl)))
        try simp only [Act.put, List.getElem_toArray, List.getElem_cons_zero, List.getElem_cons_succ, List.setIfInBounds_toArray, List.set_cons_zero, List.set_cons_succ]
        first
          | (refine wpAnyH_take (i := 19) (v := undef) rfl (by kernel_rfl) (by kernel_rfl) (by kernel_rfl) (fun _ _ _ h => h) (Or.inr ⟨by rfl, rfl⟩) (by assumption) ?_)
          | (refine wpAnyH_take (i := 19) (v := ?_) rfl (by kernel_rfl) (by kernel_rfl) (by kernel_rfl) (fun _ _ _ h => h) (Or.inl ⟨by rfl, ?_⟩) (by assumption) ?_
             rotate_left
             (intro w hSw
              (try dsimp only at hSw)
              (go_simp <;> with_reducible rfl)))
        try simp only [Act.put, List.getElem_toArray, List.getElem_cons_zero, List.getElem_cons_succ, List.setIfInBounds_toArray, List.set_cons_zero, List.set_cons_succ]
        first
          | (refine wpAnyH_take (i := 20) (v := undef) rfl (by kernel_rfl) (by kernel_rfl) (by kernel_rfl) (fun _ _ _ h => h) (Or.inr ⟨by rfl, rfl⟩) (by assumption) ?_)
          | (refine wpAnyH_take (i := 20) (v := ?_) rfl (by kernel_rfl) (by kernel_rfl) (by kernel_rfl) (fun _ _ _ h => h) (Or.inl ⟨by rfl, ?_⟩) (by assumption) ?_
             rotate_left
             (intro w hSw
              (try dsimp only at hSw)
              (go_simp <;> with_reducible rfl)))
        try simp only [Act.put, List.getElem_toArray, List.getElem_cons_zero, List.getElem_cons_succ, List.setIfInBounds_toArray, List.set_cons_zero, List.set_cons_succ]
        first
          | (refine wpAnyH_take (i := 21) (v := undef) rfl (by kernel_rfl) (by kernel_rfl) (by kernel_rfl) (fun _ _ _ h => h) (Or.inr ⟨by rfl, rfl⟩) (by assumption) ?_)
          | (refine wpAnyH_take (i := 21) (v := ?_) rfl (by kernel_rfl) (by kernel_rfl) (by kernel_rfl) (fun _ _ _ h => h) (Or.inl ⟨by rfl, ?_⟩) (by assumption) ?_
             rotate_left
             (intro w hSw
              (try dsimp only at hSw)
              (go_simp <;> with_reducible rfl)))
        try simp only [Act.put, List.getElem_toArray, List.getElem_cons_zero, List.getElem_cons_succ, List.setIfInBounds_toArray, List.set_cons_zero, List.set_cons_succ]
        first
          | (refine wpAnyH_take (i := 22) (v := undef) rfl (by kernel_rfl) (by kernel_rfl) (by kernel_rfl) (fun _ _ _ h => h) (Or.inr ⟨by rfl, rfl⟩) (by assumption) ?_)
          | (refine wpAnyH_take (i := 22) (v := ?_) rfl (by kernel_rfl) (by kernel_rfl) (by kernel_rfl) (fun _ _ _ h => h) (Or.inl ⟨by rfl, ?_⟩) (by assumption) ?_
             rotate_left
             (intro w hSw
              (try dsimp only at hSw)
              (go_simp <;> with_reducible rfl)))
        try simp only [Act.put, List.getElem_toArray, List.getElem_cons_zero, List.getElem_cons_succ, List.setIfInBounds_toArray, List.set_cons_zero, List.set_cons_succ]
        first
          | (refine wpAnyH_take (i := 24) (v := undef) rfl (by kernel_rfl) (by kernel_rfl) (by kernel_rfl) (fun _ _ _ h => h) (Or.inr ⟨by rfl, rfl⟩) (by assumption) ?_)
          | (refine wpAnyH_take (i := 24) (v := ?_) rfl (by kernel_rfl) (by kernel_rfl) (by kernel_rfl) (fun _ _ _ h => h) (Or.inl ⟨by rfl, ?_⟩) (by assumption) ?_
             rotate_left
             (intro w hSw
              (try dsimp only at hSw)
              (go_simp <;> with_reducible rfl)))
        try simp only [Act.put, List.getElem_toArray, List.getElem_cons_zero, List.getElem_cons_succ, List.setIfInBounds_toArray, List.set_cons_zero, List.set_cons_succ]
        refine wpAnyH_ready (rs := [23]) (by kernel_rfl) (by simp) ?_
        refine AllReadyH.cons (i := 23) (o := _) rfl (fun K hK => ?_) ?_
        rotate_left
        · exact AllReadyH.nil
        go_simp
        refine (of06_any (.nil, 0, 0, .nil) TmOk.nil _ _ w10 (fun x h => h) (TB9.out.all G10.out)).mono ?_
        rintro e w11 ⟨⟨v', rfl, tv⟩, g'⟩
        obtain ⟨oa, oc, od, oe, rfl, _, _⟩ := id tv
        dsimp only [Tm.bs, Tm.kd, Tm.ix, Tm.ag]
        have z0 := g'.cell (fun h => h) z0
        have z1 := g'.cell (fun h => h) z1
        have z2 := g'.cell (fun h => h) z2
        have z3 := g'.cell (fun h => h) z3
        have z4 := g'.cell (fun h => h) z4
        have z5 := g'.cell (fun h => h) z5
        have z6 := g'.cell (fun h => h) z6
        have z7 := g'.cell (fun h => h) z7
        have G11 := hide (G10.out.trans g')
        have TO := hide (tv_new tv)
        clear tv g'
        go_simp
        refine hK.out _ _ ⟨z0, z1, z2, z3, z4, z5, z6, z7⟩ (fun hHeld => ?_)
        clear hK K
        try simp only [Act.put, List.getElem_toArray, List.getElem_cons_zero, List.getElem_cons_succ, List.setIfInBounds_toArray, List.set_cons_zero, List.set_cons_succ]
        refine wpAnyH_ready (rs := [25]) (by kernel_rfl) (by simp) ?_
        refine AllReadyH.cons (i := 25) (o := _) rfl (fun K hK => ?_) ?_
        rotate_left
        · exact AllReadyH.nil
        go_simp
        refine (same06_any (.nil, 0, 0, .nil) TmOk.nil _ _ _ w11 (fun x h => h) TO.out (TC9.out.all G11.out)).mono ?_
        rintro e w12 ⟨rfl, g'⟩
        have z0 := g'.cell (fun h => h) z0
        have z1 := g'.cell (fun h => h) z1
        have z2 := g'.cell (fun h => h) z2
        have z3 := g'.cell (fun h => h) z3
        have z4 := g'.cell (fun h => h) z4
        have z5 := g'.cell (fun h => h) z5
        have z6 := g'.cell (fun h => h) z6
        have z7 := g'.cell (fun h => h) z7
        have G12 := hide (G11.out.trans g')
        clear g'
        go_simp
        refine hK.out _ _ ⟨z0, z1, z2, z3, z4, z5, z6, z7⟩ (fun hHeld => ?_)
        clear hK K
        try simp only [Act.put, List.getElem_toArray, List.getElem_cons_zero, List.getElem_cons_succ, List.setIfInBounds_toArray, List.set_cons_zero, List.set_cons_succ]
        first
          | (refine wpAnyH_take (i := 26) (v := undef) rfl (by kernel_rfl) (by kernel_rfl) (by kernel_rfl) (fun _ _ _ h => h) (Or.inr ⟨by rfl, rfl⟩) (by assumption) ?_)
          | (refine wpAnyH_take (i := 26) (v := ?_) rfl (by kernel_rfl) (by kernel_rfl) (by kernel_rfl) (fun _ _ _ h => h) (Or.inl ⟨by rfl, ?_⟩) (by assumption) ?_
             rotate_left
             (intro w hSw
              (try dsimp only at hSw)
              (go_simp <;> with_reducible rfl)))
        try simp only [Act.put, List.getElem_toArray, List.getElem_cons_zero, List.getElem_cons_succ, List.setIfInBounds_toArray, List.set_cons_zero, List.set_cons_succ]
        first
          | (refine wpAnyH_take (i := 27) (v := undef) rfl (by kernel_rfl) (by kernel_rfl) (by kernel_rfl) (fun _ _ _ h => h) (Or.inr ⟨by rfl, rfl⟩) (by assumption) ?_)
          | (refine wpAnyH_take (i := 27) (v := ?_) rfl (by kernel_rfl) (by kernel_rfl) (by kernel_rfl) (fun _ _ _ h => h) (Or.inl ⟨by rfl, ?_⟩) (by assumption) ?_
             rotate_left
             (intro w hSw
              (try dsimp only at hSw)
              (go_simp <;> with_reducible rfl)))
        try simp only [Act.put, List.getElem_toArray, List.getElem_cons_zero, List.getElem_cons_succ, List.setIfInBounds_toArray, List.set_cons_zero, List.set_cons_succ]
        first
          | (refine wpAnyH_take (i := 28) (v := undef) rfl (by kernel_rfl) (by kernel_rfl) (by kernel_rfl) (fun _ _ _ h => h) (Or.inr ⟨by rfl, rfl⟩) (by assumption) ?_)
          | (refine wpAnyH_take (i := 28) (v := ?_) rfl (by kernel_rfl) (by kernel_rfl) (by kernel_rfl) (fun _ _ _ h => h) (Or.inl ⟨by rfl, ?_⟩) (by assumption) ?_
             rotate_left
             (intro w hSw
              (try dsimp only at hSw)
              (go_simp <;> with_reducible rfl)))
        try simp only [Act.put, List.getElem_toArray, List.getElem_cons_zero, List.getElem_cons_succ, List.setIfInBounds_toArray, List.set_cons_zero, List.set_cons_succ]
        first
          | (refine wpAnyH_take (i := 29) (v := undef) rfl (by kernel_rfl) (by kernel_rfl) (by kernel_rfl) (fun _ _ _ h => h) (Or.inr ⟨by rfl, rfl⟩) (by assumption) ?_)
          | (refine wpAnyH_take (i := 29) (v := ?_) rfl (by kernel_rfl) (by kernel_rfl) (by kernel_rfl) (fun _ _ _ h => h) (Or.inl ⟨by rfl, ?_⟩) (by assumption) ?_
             rotate_left
             (intro w hSw
              (try dsimp only at hSw)
              (go_simp <;> with_reducible rfl)))
        try simp only [Act.put, List.getElem_toArray, List.getElem_cons_zero, List.getElem_cons_succ, List.setIfInBounds_toArray, List.set_cons_zero, List.set_cons_succ]
        first
          | (refine wpAnyH_take (i := 30) (v := undef) rfl (by kernel_rfl) (by kernel_rfl) (by kernel_rfl) (fun _ _ _ h => h) (Or.inr ⟨by rfl, rfl⟩) (by assumption) ?_)
          | (refine wpAnyH_take (i := 30) (v := ?_) rfl (by kernel_rfl) (by kernel_rfl) (by kernel_rfl) (fun _ _ _ h => h) (Or.inl ⟨by rfl, ?_⟩) (by assumption) ?_
             rotate_left
             (intro w hSw
              (try dsimp only at hSw)
              (go_simp <;> with_reducible rfl)))
        try simp only [Act.put, List.getElem_toArray, List.getElem_cons_zero, List.getElem_cons_succ, List.setIfInBounds_toArray, List.set_cons_zero, List.set_cons_succ]
        first
          | (refine wpAnyH_take (i := 31) (v := undef) rfl (by kernel_rfl) (by kernel_rfl) (by kernel_rfl) (fun _ _ _ h => h) (Or.inr ⟨by rfl, rfl⟩) (by assumption) ?_)
          | (refine wpAnyH_take (i := 31) (v := ?_) rfl (by kernel_rfl) (by kernel_rfl) (by kernel_rfl) (fun _ _ _ h => h) (Or.inl ⟨by rfl, ?_⟩) (by assumption) ?_
             rotate_left
             (intro w hSw
              (try dsimp only at hSw)
              (go_simp <;> with_reducible rfl)))
        try simp only [Act.put, List.getElem_toArray, List.getElem_cons_zero, List.getElem_cons_succ, List.setIfInBounds_toArray, List.set_cons_zero, List.set_cons_succ]
        first
          | (refine wpAnyH_take (i := 32) (v := undef) rfl (by kernel_rfl) (by kernel_rfl) (by kernel_rfl) (fun _ _ _ h => h) (Or.inr ⟨by rfl, rfl⟩) (by assumption) ?_)
          | (refine wpAnyH_take (i := 32) (v := ?_) rfl (by kernel_rfl) (by kernel_rfl) (by kernel_rfl) (fun _ _ _ h => h) (Or.inl ⟨by rfl, ?_⟩) (by assumption) ?_
             rotate_left
             (intro w hSw
              (try dsimp only at hSw)
              (go_simp <;> with_reducible rfl)))
        try simp only [Act.put, List.getElem_toArray, List.getElem_cons_zero, List.getElem_cons_succ, List.setIfInBounds_toArray, List.set_cons_zero, List.set_cons_succ]
        first
          | (refine wpAnyH_take (i := 33) (v := undef) rfl (by kernel_rfl) (by kernel_rfl) (by kernel_rfl) (fun _ _ _ h => h) (Or.inr ⟨by rfl, rfl⟩) (by assumption) ?_)
          | (refine wpAnyH_take (i := 33) (v := ?_) rfl (by kernel_rfl) (by kernel_rfl) (by kernel_rfl) (fun _ _ _ h => h) (Or.inl ⟨by rfl, ?_⟩) (by assumption) ?_
             rotate_left
             (intro w hSw
              (try dsimp only at hSw)
              (go_simp <;> with_reducible rfl)))
        try simp only [Act.put, List.getElem_toArray, List.getElem_cons_zero, List.getElem_cons_succ, List.setIfInBounds_toArray, List.set_cons_zero, List.set_cons_succ]
        first
          | (refine wpAnyH_take (i := 34) (v := undef) rfl (by kernel_rfl) (by kernel_rfl) (by kernel_rfl) (fun _ _ _ h => h) (Or.inr ⟨by rfl, rfl⟩) (by assumption) ?_)
          | (refine wpAnyH_take (i := 34) (v := ?_) rfl (by kernel_rfl) (by kernel_rfl) (by kernel_rfl) (fun _ _ _ h => h) (Or.inl ⟨by rfl, ?_⟩) (by assumption) ?_
             rotate_left
             (intro w hSw
              (try dsimp only at hSw)
              (go_simp <;> with_reducible rfl)))
        try simp only [Act.put, List.getElem_toArray, List.getElem_cons_zero, List.getElem_cons_succ, List.setIfInBounds_toArray, List.set_cons_zero, List.set_cons_succ]
        first
          | (refine wpAnyH_take (i := 35) (v := undef) rfl (by kernel_rfl) (by kernel_rfl) (by kernel_rfl) (fun _ _ _ h => h) (Or.inr ⟨by rfl, rfl⟩) (by assumption) ?_)
          | (refine wpAnyH_take (i := 35) (v := ?_) rfl (by kernel_rfl) (by kernel_rfl) (by kernel_rfl) (fun _ _ _ h => h) (Or.inl ⟨by rfl, ?_⟩) (by assumption) ?_
             rotate_left
             (intro w hSw
              (try dsimp only at hSw)
              (go_simp <;> with_reducible rfl)))
        try simp only [Act.put, List.getElem_toArray, List.getElem_cons_zero, List.getElem_cons_succ, List.setIfInBounds_toArray, List.set_cons_zero, List.set_cons_succ]
        first
          | (refine wpAnyH_take (i := 36) (v := undef) rfl (by kernel_rfl) (by kernel_rfl) (by kernel_rfl) (fun _ _ _ h => h) (Or.inr ⟨by rfl, rfl⟩) (by assumption) ?_)
          | (refine wpAnyH_take (i := 36) (v := ?_) rfl (by kernel_rfl) (by kernel_rfl) (by kernel_rfl) (fun _ _ _ h => h) (Or.inl ⟨by rfl, ?_⟩) (by assumption) ?_
             rotate_left
             (intro w hSw
              (try dsimp only at hSw)
              (go_simp <;> with_reducible rfl)))
        try simp only [Act.put, List.getElem_toArray, List.getElem_cons_zero, List.getElem_cons_succ, List.setIfInBounds_toArray, List.set_cons_zero, List.set_cons_succ]
        refine wpAnyH_done (by kernel_rfl) ?_ _
        go_wp2_with fail
        go_meet
        exact ⟨rfl, G12⟩
      case rest =>
      obtain ⟨rfl, GX⟩ := hcut
      clear z0 z1 z2 z3 z4 z5 z6 z7
      have GF := hide (G9.out.trans GX.out)
      clear GX
      go_wp2_with fail
      go_ret
      exact ⟨rfl, GF.out⟩
    | some y =>
      obtain rfl : ev = 0 := HEV.out.symm
      simp only [Option.getD_some, Option.isSome_some] at *
      obtain ⟨⟨y0, y1, y2, y3⟩, yl⟩ := y
      dsimp only at *
      have OKY := hide (atR_ok p _ _ OK.out HRES.out)
      have OKL : Hid (yl.size ≤ 150) := hide (by have h := atR_size p _ _ HRES.out; have := SMALL.out; dsimp only [Tm.bs, Tm.ag] at h; omega)
      have RS := hide (repl_self p _ _ _ HRES.out)
      dsimp only [Tm.bs, Tm.kd, Tm.ix, Tm.ag] at OKY RS
      have z0 : w9.cell? ⟨B, 0, none⟩ = some (.slice ba' y0.len bc') := blk_cell BB9.out 0
      have z1 : w9.cell? ⟨B, 1, none⟩ = some (.int .i64 y1) := blk_cell BB9.out 1
      have z2 : w9.cell? ⟨B, 2, none⟩ = some (.int .i64 y2) := blk_cell BB9.out 2
      have z3 : w9.cell? ⟨B, 3, none⟩ = some (.slice bd y3.len be) := blk_cell BB9.out 3
      have z4 : w9.cell? ⟨C, 0, none⟩ = some (.slice ca y0.len cc) := blk_cell BC.out 0
      have z5 : w9.cell? ⟨C, 1, none⟩ = some (.int .i64 y1) := blk_cell BC.out 1
      have z6 : w9.cell? ⟨C, 2, none⟩ = some (.int .i64 y2) := blk_cell BC.out 2
      have z7 : w9.cell? ⟨C, 3, none⟩ = some (.slice cd y3.len ce) := blk_cell BC.out 3
      go_cut [76] (fun s wx => s = .bool false ∧ Hid (Chg (fun _ => False) w9 wx))
      case first =>
        refine wp_region_held_drew (S := (fun w' => w'.cell? ⟨B, 0, none⟩ = some (.slice ba' y0.len bc') ∧ w'.cell? ⟨B, 1, none⟩ = some (.int .i64 y1) ∧ w'.cell? ⟨B, 2, none⟩ = some (.int .i64 y2) ∧ w'.cell? ⟨B, 3, none⟩ = some (.slice bd y3.len be) ∧ w'.cell? ⟨C, 0, none⟩ = some (.slice ca y0.len cc) ∧ w'.cell? ⟨C, 1, none⟩ = some (.int .i64 y1) ∧ w'.cell? ⟨C, 2, none⟩ = some (.int .i64 y2) ∧ w'.cell? ⟨C, 3, none⟩ = some (.slice cd y3.len ce))) (by kernel_rfl) (by go_keep) (fun hHeld => ?_)
        refine wpAnyH_ready (rs := [0]) (by kernel_rfl) (by simp) ?_
        refine AllReadyH.cons (i := 0) (o := _) rfl (fun K hK => ?_) ?_
        rotate_left
        · exact AllReadyH.nil
        go_simp
        refine (known_any _).mono ?_
        rintro e w10 ⟨rfl, g'⟩
        have g10 := (Chg.refl (fun _ => False) w9).drew.trans g'
        have z0 := g10.cell (fun h => h) z0
        have z1 := g10.cell (fun h => h) z1
        have z2 := g10.cell (fun h => h) z2
        have z3 := g10.cell (fun h => h) z3
        have z4 := g10.cell (fun h => h) z4
        have z5 := g10.cell (fun h => h) z5
        have z6 := g10.cell (fun h => h) z6
        have z7 := g10.cell (fun h => h) z7
        have G10 := hide g10
        clear g' g10
        go_simp
        refine hK.out _ _ ⟨z0, z1, z2, z3, z4, z5, z6, z7⟩ (fun hHeld => ?_)
        clear hK K
        try simp only [Act.put, List.getElem_toArray, List.getElem_cons_zero, List.getElem_cons_succ, List.setIfInBounds_toArray, List.set_cons_zero, List.set_cons_succ]
        first
          | (refine wpAnyH_take (i := 1) (v := undef) rfl (by kernel_rfl) (by kernel_rfl) (by kernel_rfl) (fun _ _ _ h => h) (Or.inr ⟨by rfl, rfl⟩) (by assumption) ?_)
          | (refine wpAnyH_take (i := 1) (v := ?_) rfl (by kernel_rfl) (by kernel_rfl) (by kernel_rfl) (fun _ _ _ h => h) (Or.inl ⟨by rfl, ?_⟩) (by assumption) ?_
             rotate_left
             (intro w hSw
              (try dsimp only at hSw)
              (go_simp <;> with_reducible rfl)))
        try simp only [Act.put, List.getElem_toArray, List.getElem_cons_zero, List.getElem_cons_succ, List.setIfInBounds_toArray, List.set_cons_zero, List.set_cons_succ]
        first
          | (refine wpAnyH_take (i := 2) (v := undef) rfl (by kernel_rfl) (by kernel_rfl) (by kernel_rfl) (fun _ _ _ h => h) (Or.inr ⟨by rfl, rfl⟩) (by assumption) ?_)
          | (refine wpAnyH_take (i := 2) (v := ?_) rfl (by kernel_rfl) (by kernel_rfl) (by kernel_rfl) (fun _ _ _ h => h) (Or.inl ⟨by rfl, ?_⟩) (by assumption) ?_
             rotate_left
             (intro w hSw
              (try dsimp only at hSw)
              (go_simp <;> with_reducible rfl)))
        try simp only [Act.put, List.getElem_toArray, List.getElem_cons_zero, List.getElem_cons_succ, List.setIfInBounds_toArray, List.set_cons_zero, List.set_cons_succ]
        first
          | (refine wpAnyH_take (i := 3) (v := undef) rfl (by kernel_rfl) (by kernel_rfl) (by kernel_rfl) (fun _ _ _ h => h) (Or.inr ⟨by rfl, rfl⟩) (by assumption) ?_)
          | (refine wpAnyH_take (i := 3) (v := ?_) rfl (by kernel_rfl) (by kernel_rfl) (by kernel_rfl) (fun _ _ _ h => h) (Or.inl ⟨by rfl, ?_⟩) (by assumption) ?_
             rotate_left
             (intro w hSw
              (try dsimp only at hSw)
              (go_simp <;> with_reducible rfl)))
        try simp only [Act.put, List.getElem_toArray, List.getElem_cons_zero, List.getElem_cons_succ, List.setIfInBounds_toArray, List.set_cons_zero, List.set_cons_succ]
        first
          | (refine wpAnyH_take (i := 4) (v := undef) rfl (by kernel_rfl) (by kernel_rfl) (by kernel_rfl) (fun _ _ _ h => h) (Or.inr ⟨by rfl, rfl⟩) (by assumption) ?_)
          | (refine wpAnyH_take (i := 4) (v := ?_) rfl (by kernel_rfl) (by kernel_rfl) (by kernel_rfl) (fun _ _ _ h => h) (Or.inl ⟨by rfl, ?_⟩) (by assumption) ?_
             rotate_left
             (intro w hSw
              (try dsimp only at hSw)
              (go_simp <;> with_reducible rfl)))
        try simp only [Act.put, List.getElem_toArray, List.getElem_cons_zero, List.getElem_cons_succ, List.setIfInBounds_toArray, List.set_cons_zero, List.set_cons_succ]
        first
          | (refine wpAnyH_take (i := 5) (v := undef) rfl (by kernel_rfl) (by kernel_rfl) (by kernel_rfl) (fun _ _ _ h => h) (Or.inr ⟨by rfl, rfl⟩) (by assumption) ?_)
          | (refine wpAnyH_take (i := 5) (v := ?_) rfl (by kernel_rfl) (by kernel_rfl) (by kernel_rfl) (fun _ _ _ h => h) (Or.inl ⟨by rfl, ?_⟩) (by assumption) ?_
             rotate_left
             (intro w hSw
              (try dsimp only at hSw)
              (go_simp <;> with_reducible rfl)))
        try simp only [Act.put, List.getElem_toArray, List.getElem_cons_zero, List.getElem_cons_succ, List.setIfInBounds_toArray, List.set_cons_zero, List.set_cons_succ]
        first
          | (refine wpAnyH_take (i := 6) (v := undef) rfl (by kernel_rfl) (by kernel_rfl) (by kernel_rfl) (fun _ _ _ h => h) (Or.inr ⟨by rfl, rfl⟩) (by assumption) ?_)
          | (refine wpAnyH_take (i := 6) (v := ?_) rfl (by kernel_rfl) (by kernel_rfl) (by kernel_rfl) (fun _ _ _ h => h) (Or.inl ⟨by rfl, ?_⟩) (by assumption) ?_
             rotate_left
             (intro w hSw
              (try dsimp only at hSw)
              (go_simp <;> with_reducible rfl)))
        try simp only [Act.put, List.getElem_toArray, List.getElem_cons_zero, List.getElem_cons_succ, List.setIfInBounds_toArray, List.set_cons_zero, List.set_cons_succ]
        first
          | (refine wpAnyH_take (i := 7) (v := undef) rfl (by kernel_rfl) (by kernel_rfl) (by kernel_rfl) (fun _ _ _ h => h) (Or.inr ⟨by rfl, rfl⟩) (by assumption) ?_)
          | (refine wpAnyH_take (i := 7) (v := ?_) rfl (by kernel_rfl) (by kernel_rfl) (by kernel_rfl) (fun _ _ _ h => h) (Or.inl ⟨by rfl, ?_⟩) (by assumption) ?_
             rotate_left
             (intro w hSw
              (try dsimp only at hSw)
              (go_simp <;> with_reducible rfl)))
        try simp only [Act.put, List.getElem_toArray, List.getElem_cons_zero, List.getElem_cons_succ, List.setIfInBounds_toArray, List.set_cons_zero, List.set_cons_succ]
        first
          | (refine wpAnyH_take (i := 8) (v := undef) rfl (by kernel_rfl) (by kernel_rfl) (by kernel_rfl) (fun _ _ _ h => h) (Or.inr ⟨by rfl, rfl⟩) (by assumption) ?_)
          | (refine wpAnyH_take (i := 8) (v := ?_) rfl (by kernel_rfl) (by kernel_rfl) (by kernel_rfl) (fun _ _ _ h => h) (Or.inl ⟨by rfl, ?_⟩) (by assumption) ?_
             rotate_left
             (intro w hSw
              (try dsimp only at hSw)
              (go_simp <;> with_reducible rfl)))
        try simp only [Act.put, List.getElem_toArray, List.getElem_cons_zero, List.getElem_cons_succ, List.setIfInBounds_toArray, List.set_cons_zero, List.set_cons_succ]
        first
          | (refine wpAnyH_take (i := 9) (v := undef) rfl (by kernel_rfl) (by kernel_rfl) (by kernel_rfl) (fun _ _ _ h => h) (Or.inr ⟨by rfl, rfl⟩) (by assumption) ?_)
          | (refine wpAnyH_take (i := 9) (v := ?_) rfl (by kernel_rfl) (by kernel_rfl) (by kernel_rfl) (fun _ _ _ h => h) (Or.inl ⟨by rfl, ?_⟩) (by assumption) ?_
             rotate_left
             (intro w hSw
              (try dsimp only at hSw)
              (go_simp <;> with_reducible rfl)))
        try simp only [Act.put, List.getElem_toArray, List.getElem_cons_zero, List.getElem_cons_succ, List.setIfInBounds_toArray, List.set_cons_zero, List.set_cons_succ]
        first
          | (refine wpAnyH_take (i := 10) (v := undef) rfl (by kernel_rfl) (by kernel_rfl) (by kernel_rfl) (fun _ _ _ h => h) (Or.inr ⟨by rfl, rfl⟩) (by assumption) ?_)
          | (refine wpAnyH_take (i := 10) (v := ?_) rfl (by kernel_rfl) (by kernel_rfl) (by kernel_rfl) (fun _ _ _ h => h) (Or.inl ⟨by rfl, ?_⟩) (by assumption) ?_
             rotate_left
             (intro w hSw
              (try dsimp only at hSw)
              (go_simp <;> with_reducible rfl)))
        try simp only [Act.put, List.getElem_toArray, List.getElem_cons_zero, List.getElem_cons_succ, List.setIfInBounds_toArray, List.set_cons_zero, List.set_cons_succ]
        first
          | (refine wpAnyH_take (i := 11) (v := undef) rfl (by kernel_rfl) (by kernel_rfl) (by kernel_rfl) (fun _ _ _ h => h) (Or.inr ⟨by rfl, rfl⟩) (by assumption) ?_)
          | (refine wpAnyH_take (i := 11) (v := ?_) rfl (by kernel_rfl) (by kernel_rfl) (by kernel_rfl) (fun _ _ _ h => h) (Or.inl ⟨by rfl, ?_⟩) (by assumption) ?_
             rotate_left
             (intro w hSw
              (try dsimp only at hSw)
              (go_simp <;> with_reducible rfl)))
        try simp only [Act.put, List.getElem_toArray, List.getElem_cons_zero, List.getElem_cons_succ, List.setIfInBounds_toArray, List.set_cons_zero, List.set_cons_succ]
        first
          | (refine wpAnyH_take (i := 12) (v := undef) rfl (by kernel_rfl) (by kernel_rfl) (by kernel_rfl) (fun _ _ _ h => h) (Or.inr ⟨by rfl, rfl⟩) (by assumption) ?_)
          | (refine wpAnyH_take (i := 12) (v := ?_) rfl (by kernel_rfl) (by kernel_rfl) (by kernel_rfl) (fun _ _ _ h => h) (Or.inl ⟨by rfl, ?_⟩) (by assumption) ?_
             rotate_left
             (intro w hSw
              (try dsimp only at hSw)
              (go_simp <;> with_reducible rfl)))
        try simp only [Act.put, List.getElem_toArray, List.getElem_cons_zero, List.getElem_cons_succ, List.setIfInBounds_toArray, List.set_cons_zero, List.set_cons_succ]
        first
          | (refine wpAnyH_take (i := 13) (v := undef) rfl (by kernel_rfl) (by kernel_rfl) (by kernel_rfl) (fun _ _ _ h => h) (Or.inr ⟨by rfl, rfl⟩) (by assumption) ?_)
          | (refine wpAnyH_take (i := 13) (v := ?_) rfl (by kernel_rfl) (by kernel_rfl) (by kernel_rfl) (fun _ _ _ h => h) (Or.inl ⟨by rfl, ?_⟩) (by assumption) ?_
             rotate_left
             (intro w hSw
              (try dsimp only at hSw)
              (go_simp <;> with_reducible rfl)))
        try simp only [Act.put, List.getElem_toArray, List.getElem_cons_zero, List.getElem_cons_succ, List.setIfInBounds_toArray, List.set_cons_zero, List.set_cons_succ]
        first
          | (refine wpAnyH_take (i := 14) (v := undef) rfl (by kernel_rfl) (by kernel_rfl) (by kernel_rfl) (fun _ _ _ h => h) (Or.inr ⟨by rfl, rfl⟩) (by assumption) ?_)
          | (refine wpAnyH_take (i := 14) (v := ?_) rfl (by kernel_rfl) (by kernel_rfl) (by kernel_rfl) (fun _ _ _ h => h) (Or.inl ⟨by rfl, ?_⟩) (by assumption) ?_
             rotate_left
             (intro w hSw
              (try dsimp only at hSw)
              (go_simp <;> with_reducible rfl)))
        try simp only [Act.put, List.getElem_toArray, List.getElem_cons_zero, List.getElem_cons_succ, List.setIfInBounds_toArray, List.set_cons_zero, List.set_cons_succ]
        first
          | (refine wpAnyH_take (i := 15) (v := undef) rfl (by kernel_rfl) (by kernel_rfl) (by kernel_rfl) (fun _ _ _ h => h) (Or.inr ⟨by rfl, rfl⟩) (by assumption) ?_)
          | (refine wpAnyH_take (i := 15) (v := ?_) rfl (by kernel_rfl) (by kernel_rfl) (by kernel_rfl) (fun _ _ _ h => h) (Or.inl ⟨by rfl, ?_⟩) (by assumption) ?_
             rotate_left
             (intro w hSw
              (try dsimp only at hSw)
              (go_simp <;> with_reducible rfl)))
        try simp only [Act.put, List.getElem_toArray, List.getElem_cons_zero, List.getElem_cons_succ, List.setIfInBounds_toArray, List.set_cons_zero, List.set_cons_succ]
        first
          | (refine wpAnyH_take (i := 16) (v := undef) rfl (by kernel_rfl) (by kernel_rfl) (by kernel_rfl) (fun _ _ _ h => h) (Or.inr ⟨by rfl, rfl⟩) (by assumption) ?_)
          | (refine wpAnyH_take (i := 16) (v := ?_) rfl (by kernel_rfl) (by kernel_rfl) (by kernel_rfl) (fun _ _ _ h => h) (Or.inl ⟨by rfl, ?_⟩) (by assumption) ?_
             rotate_left
             (intro w hSw
              (try dsimp only at hSw)
              (go_simp <;> with_reducible rfl)))
        try simp only [Act.put, List.getElem_toArray, List.getElem_cons_zero, List.getElem_cons_succ, List.setIfInBounds_toArray, List.set_cons_zero, List.set_cons_succ]
        first
          | (refine wpAnyH_take (i := 17) (v := undef) rfl (by kernel_rfl) (by kernel_rfl) (by kernel_rfl) (fun _ _ _ h => h) (Or.inr ⟨by rfl, rfl⟩) (by assumption) ?_)
          | (refine wpAnyH_take (i := 17) (v := ?_) rfl (by kernel_rfl) (by kernel_rfl) (by kernel_rfl) (fun _ _ _ h => h) (Or.inl ⟨by rfl, ?_⟩) (by assumption) ?_
             rotate_left
             (intro w hSw
              (try dsimp only at hSw)
              (go_simp <;> with_reducible rfl)))
        try simp only [Act.put, List.getElem_toArray, List.getElem_cons_zero, List.getElem_cons_succ, List.setIfInBounds_toArray, List.set_cons_zero, List.set_cons_succ]
        first
          | (refine wpAnyH_take (i := 18) (v := undef) rfl (by kernel_rfl) (by kernel_rfl) (by kernel_rfl) (fun _ _ _ h => h) (Or.inr ⟨by rfl, rfl⟩) (by assumption) ?_)
          | (refine wpAnyH_take (i := 18) (v := ?_) rfl (by kernel_rfl) (by kernel_rfl) (by kernel_rfl) (fun _ _ _ h => h) (Or.inl ⟨by rfl, ?_⟩) (by assumption) ?_
             rotate_left
             (intro w hSw
              (try dsimp only at hSw)
              (go_simp <;> with_reducible rfl)))
        try simp only [Act.put, List.getElem_toArray, List.getElem_cons_zero, List.getElem_cons_succ, List.setIfInBounds_toArray, List.set_cons_zero, List.set_cons_succ]
        first
          | (refine wpAnyH_take (i := 19) (v := undef) rfl (by kernel_rfl) (by kernel_rfl) (by kernel_rfl) (fun _ _ _ h => h) (Or.inr ⟨by rfl, rfl⟩) (by assumption) ?_)
          | (refine wpAnyH_take (i := 19) (v := ?_) rfl (by kernel_rfl) (by kernel_rfl) (by kernel_rfl) (fun _ _ _ h => h) (Or.inl ⟨by rfl, ?_⟩) (by assumption) ?_
             rotate_left
             (intro w hSw
              (try dsimp only at hSw)
              (go_simp <;> with_reducible rfl)))
        try simp only [Act.put, List.getElem_toArray, List.getElem_cons_zero, List.getElem_cons_succ, List.setIfInBounds_toArray, List.set_cons_zero, List.set_cons_succ]
        first
          | (refine wpAnyH_take (i := 20) (v := undef) rfl (by kernel_rfl) (by kernel_rfl) (by kernel_rfl) (fun _ _ _ h => h) (Or.inr ⟨by rfl, rfl⟩) (by assumption) ?_)
          | (refine wpAnyH_take (i := 20) (v := ?_) rfl (by kernel_rfl) (by kernel_rfl) (by kernel_rfl) (fun _ _ _ h => h) (Or.inl ⟨by rfl, ?_⟩) (by assumption) ?_
             rotate_left
             (intro w hSw
              (try dsimp only at hSw)
              (go_simp <;> with_reducible rfl)))
        try simp only [Act.put, List.getElem_toArray, List.getElem_cons_zero, List.getElem_cons_succ, List.setIfInBounds_toArray, List.set_cons_zero, List.set_cons_succ]
        first
          | (refine wpAnyH_take (i := 21) (v := undef) rfl (by kernel_rfl) (by kernel_rfl) (by kernel_rfl) (fun _ _ _ h => h) (Or.inr ⟨by rfl, rfl⟩) (by assumption) ?_)
          | (refine wpAnyH_take (i := 21) (v := ?_) rfl (by kernel_rfl) (by kernel_rfl) (by kernel_rfl) (fun _ _ _ h => h) (Or.inl ⟨by rfl, ?_⟩) (by assumption) ?_
             rotate_left
             (intro w hSw
              (try dsimp only at hSw)
              (go_simp <;> with_reducible rfl)))
        try simp only [Act.put, List.getElem_toArray, List.getElem_cons_zero, List.getElem_cons_succ, List.setIfInBounds_toArray, List.set_cons_zero, List.set_cons_succ]
        first
          | (refine wpAnyH_take (i := 22) (v := undef) rfl (by kernel_rfl) (by kernel_rfl) (by kernel_rfl) (fun _ _ _ h => h) (Or.inr ⟨by rfl, rfl⟩) (by assumption) ?_)
          | (refine wpAnyH_take (i := 22) (v := ?_) rfl (by kernel_rfl) (by kernel_rfl) (by kernel_rfl) (fun _ _ _ h => h) (Or.inl ⟨by rfl, ?_⟩) (by assumption) ?_
             rotate_left
             (intro w hSw
              (try dsimp only at hSw)
              (go_simp <;> with_reducible rfl)))
        try simp only [Act.put, List.getElem_toArray, List.getElem_cons_zero, List.getElem_cons_succ, List.setIfInBounds_toArray, List.set_cons_zero, List.set_cons_succ]
        first
          | (refine wpAnyH_take (i := 24) (v := undef) rfl (by kernel_rfl) (by kernel_rfl) (by kernel_rfl) (fun _ _ _ h => h) (Or.inr ⟨by rfl, rfl⟩) (by assumption) ?_)
          | (refine wpAnyH_take (i := 24) (v := ?_) rfl (by kernel_rfl) (by kernel_rfl) (by kernel_rfl) (fun _ _ _ h => h) (Or.inl ⟨by rfl, ?_⟩) (by assumption) ?_
             rotate_left
             (intro w hSw
              (try dsimp only at hSw)
              (go_simp <;> with_reducible rfl)))
        try simp only [Act.put, List.getElem_toArray, List.getElem_cons_zero, List.getElem_cons_succ, List.setIfInBounds_toArray, List.set_cons_zero, List.set_cons_succ]
        refine wpAnyH_ready (rs := [23]) (by kernel_rfl) (by simp) ?_
        refine AllReadyH.cons (i := 23) (o := _) rfl (fun K hK => ?_) ?_
        rotate_left
        · exact AllReadyH.nil
        go_simp
        refine (of06_any (y0, y1, y2, y3) OKY.out _ _ w10 (fun x h => h) (TB9.out.all G10.out)).mono ?_
        rintro e w11 ⟨⟨v', rfl, tv⟩, g'⟩
        obtain ⟨oa, oc, od, oe, rfl, _, _⟩ := id tv
        dsimp only [Tm.bs, Tm.kd, Tm.ix, Tm.ag]
        have z0 := g'.cell (fun h => h) z0
        have z1 := g'.cell (fun h => h) z1
        have z2 := g'.cell (fun h => h) z2
        have z3 := g'.cell (fun h => h) z3
        have z4 := g'.cell (fun h => h) z4
        have z5 := g'.cell (fun h => h) z5
        have z6 := g'.cell (fun h => h) z6
        have z7 := g'.cell (fun h => h) z7
        have G11 := hide (G10.out.trans g')
        have TO := hide (tv_new tv)
        clear tv g'
        go_simp
        refine hK.out _ _ ⟨z0, z1, z2, z3, z4, z5, z6, z7⟩ (fun hHeld => ?_)
        clear hK K
        try simp only [Act.put, List.getElem_toArray, List.getElem_cons_zero, List.getElem_cons_succ, List.setIfInBounds_toArray, List.set_cons_zero, List.set_cons_succ]
        refine wpAnyH_ready (rs := [25]) (by kernel_rfl) (by simp) ?_
        refine AllReadyH.cons (i := 25) (o := _) rfl (fun K hK => ?_) ?_
        rotate_left
        · exact AllReadyH.nil
        go_simp
        refine (same06_any (y0, y1, y2, y3) OKY.out _ _ _ w11 (fun x h => h) TO.out (TC9.out.all G11.out)).mono ?_
        rintro e w12 ⟨rfl, g'⟩
        have z0 := g'.cell (fun h => h) z0
        have z1 := g'.cell (fun h => h) z1
        have z2 := g'.cell (fun h => h) z2
        have z3 := g'.cell (fun h => h) z3
        have z4 := g'.cell (fun h => h) z4
        have z5 := g'.cell (fun h => h) z5
        have z6 := g'.cell (fun h => h) z6
        have z7 := g'.cell (fun h => h) z7
        have G12 := hide (G11.out.trans g')
        clear g'
        go_simp
        refine hK.out _ _ ⟨z0, z1, z2, z3, z4, z5, z6, z7⟩ (fun hHeld => ?_)
        clear hK K
        try simp only [Act.put, List.getElem_toArray, List.getElem_cons_zero, List.getElem_cons_succ, List.setIfInBounds_toArray, List.set_cons_zero, List.set_cons_succ]
        first
          | (refine wpAnyH_take (i := 26) (v := undef) rfl (by kernel_rfl) (by kernel_rfl) (by kernel_rfl) (fun _ _ _ h => h) (Or.inr ⟨by rfl, rfl⟩) (by assumption) ?_)
          | (refine wpAnyH_take (i := 26) (v := ?_) rfl (by kernel_rfl) (by kernel_rfl) (by kernel_rfl) (fun _ _ _ h => h) (Or.inl ⟨by rfl, ?_⟩) (by assumption) ?_
             rotate_left
             (intro w hSw
              (try dsimp only at hSw)
              (go_simp <;> with_reducible rfl)))
        try simp only [Act.put, List.getElem_toArray, List.getElem_cons_zero, List.getElem_cons_succ, List.setIfInBounds_toArray, List.set_cons_zero, List.set_cons_succ]
        first
          | (refine wpAnyH_take (i := 27) (v := undef) rfl (by kernel_rfl) (by kernel_rfl) (by kernel_rfl) (fun _ _ _ h => h) (Or.inr ⟨by rfl, rfl⟩) (by assumption) ?_)
          | (refine wpAnyH_take (i := 27) (v := ?_) rfl (by kernel_rfl) (by kernel_rfl) (by kernel_rfl) (fun _ _ _ h => h) (Or.inl ⟨by rfl, ?_⟩) (by assumption) ?_
             rotate_left
             (intro w hSw
              (try dsimp only at hSw)
              (go_simp <;> with_reducible rfl)))
        try simp only [Act.put, List.getElem_toArray, List.getElem_cons_zero, List.getElem_cons_succ, List.setIfInBounds_toArray, List.set_cons_zero, List.set_cons_succ]
        first
          | (refine wpAnyH_take (i := 28) (v := undef) rfl (by kernel_rfl) (by kernel_rfl) (by kernel_rfl) (fun _ _ _ h => h) (Or.inr ⟨by rfl, rfl⟩) (by assumption) ?_)
          | (refine wpAnyH_take (i := 28) (v := ?_) rfl (by kernel_rfl) (by kernel_rfl) (by kernel_rfl) (fun _ _ _ h => h) (Or.inl ⟨by rfl, ?_⟩) (by assumption) ?_
             rotate_left
             (intro w hSw
              (try dsimp only at hSw)
              (go_simp <;> with_reducible rfl)))
        try simp only [Act.put, List.getElem_toArray, List.getElem_cons_zero, List.getElem_cons_succ, List.setIfInBounds_toArray, List.set_cons_zero, List.set_cons_succ]
        first
          | (refine wpAnyH_take (i := 29) (v := undef) rfl (by kernel_rfl) (by kernel_rfl) (by kernel_rfl) (fun _ _ _ h => h) (Or.inr ⟨by rfl, rfl⟩) (by assumption) ?_)
          | (refine wpAnyH_take (i := 29) (v := ?_) rfl (by kernel_rfl) (by kernel_rfl) (by kernel_rfl) (fun _ _ _ h => h) (Or.inl ⟨by rfl, ?_⟩) (by assumption) ?_
             rotate_left
             (intro w hSw
              (try dsimp only at hSw)
              (go_simp <;> with_reducible rfl)))
        try simp only [Act.put, List.getElem_toArray, List.getElem_cons_zero, List.getElem_cons_succ, List.setIfInBounds_toArray, List.set_cons_zero, List.set_cons_succ]
        first
          | (refine wpAnyH_take (i := 30) (v := undef) rfl (by kernel_rfl) (by kernel_rfl) (by kernel_rfl) (fun _ _ _ h => h) (Or.inr ⟨by rfl, rfl⟩) (by assumption) ?_)
          | (refine wpAnyH_take (i := 30) (v := ?_) rfl (by kernel_rfl) (by kernel_rfl) (by kernel_rfl) (fun _ _ _ h => h) (Or.inl ⟨by rfl, ?_⟩) (by assumption) ?_
             rotate_left
             (intro w hSw
              (try dsimp only at hSw)
              (go_simp <;> with_reducible rfl)))
        try simp only [Act.put, List.getElem_toArray, List.getElem_cons_zero, List.getElem_cons_succ, List.setIfInBounds_toArray, List.set_cons_zero, List.set_cons_succ]
        first
          | (refine wpAnyH_take (i := 31) (v := undef) rfl (by kernel_rfl) (by kernel_rfl) (by kernel_rfl) (fun _ _ _ h => h) (Or.inr ⟨by rfl, rfl⟩) (by assumption) ?_)
          | (refine wpAnyH_take (i := 31) (v := ?_) rfl (by kernel_rfl) (by kernel_rfl) (by kernel_rfl) (fun _ _ _ h => h) (Or.inl ⟨by rfl, ?_⟩) (by assumption) ?_
             rotate_left
             (intro w hSw
              (try dsimp only at hSw)
              (go_simp <;> with_reducible rfl)))
        try simp only [Act.put, List.getElem_toArray, List.getElem_cons_zero, List.getElem_cons_succ, List.setIfInBounds_toArray, List.set_cons_zero, List.set_cons_succ]
        first
          | (refine wpAnyH_take (i := 32) (v := undef) rfl (by kernel_rfl) (by kernel_rfl) (by kernel_rfl) (fun _ _ _ h => h) (Or.inr ⟨by rfl, rfl⟩) (by assumption) ?_)
          | (refine wpAnyH_take (i := 32) (v := ?_) rfl (by kernel_rfl) (by kernel_rfl) (by kernel_rfl) (fun _ _ _ h => h) (Or.inl ⟨by rfl, ?_⟩) (by assumption) ?_
             rotate_left
             (intro w hSw
              (try dsimp only at hSw)
              (go_simp <;> with_reducible rfl)))
        try simp only [Act.put, List.getElem_toArray, List.getElem_cons_zero, List.getElem_cons_succ, List.setIfInBounds_toArray, List.set_cons_zero, List.set_cons_succ]
        refine wpAnyH_ready (rs := [33]) (by kernel_rfl) (by simp) ?_
        refine AllReadyH.cons (i := 33) (o := _) rfl (fun K hK => ?_) ?_
        rotate_left
        · exact AllReadyH.nil
        go_simp
        refine (types10_same yl (by have := OKL.out; omega) _ _ _ w12 (fun x h => h) (TL9.out.all G12.out) (TM9.out.all G12.out)).mono ?_
        rintro e w13 ⟨rfl, g'⟩
        have z0 := g'.cell (fun h => h) z0
        have z1 := g'.cell (fun h => h) z1
        have z2 := g'.cell (fun h => h) z2
        have z3 := g'.cell (fun h => h) z3
        have z4 := g'.cell (fun h => h) z4
        have z5 := g'.cell (fun h => h) z5
        have z6 := g'.cell (fun h => h) z6
        have z7 := g'.cell (fun h => h) z7
        have G13 := hide (G12.out.trans g')
        clear g'
        go_simp
        refine hK.out _ _ ⟨z0, z1, z2, z3, z4, z5, z6, z7⟩ (fun hHeld => ?_)
        clear hK K
        try simp only [Act.put, List.getElem_toArray, List.getElem_cons_zero, List.getElem_cons_succ, List.setIfInBounds_toArray, List.set_cons_zero, List.set_cons_succ]
        first
          | (refine wpAnyH_take (i := 34) (v := undef) rfl (by kernel_rfl) (by kernel_rfl) (by kernel_rfl) (fun _ _ _ h => h) (Or.inr ⟨by rfl, rfl⟩) (by assumption) ?_)
          | (refine wpAnyH_take (i := 34) (v := ?_) rfl (by kernel_rfl) (by kernel_rfl) (by kernel_rfl) (fun _ _ _ h => h) (Or.inl ⟨by rfl, ?_⟩) (by assumption) ?_
             rotate_left
             (intro w hSw
              (try dsimp only at hSw)
              (go_simp <;> with_reducible rfl)))
        try simp only [Act.put, List.getElem_toArray, List.getElem_cons_zero, List.getElem_cons_succ, List.setIfInBounds_toArray, List.set_cons_zero, List.set_cons_succ]
        first
          | (refine wpAnyH_take (i := 35) (v := undef) rfl (by kernel_rfl) (by kernel_rfl) (by kernel_rfl) (fun _ _ _ h => h) (Or.inr ⟨by rfl, rfl⟩) (by assumption) ?_)
          | (refine wpAnyH_take (i := 35) (v := ?_) rfl (by kernel_rfl) (by kernel_rfl) (by kernel_rfl) (fun _ _ _ h => h) (Or.inl ⟨by rfl, ?_⟩) (by assumption) ?_
             rotate_left
             (intro w hSw
              (try dsimp only at hSw)
              (go_simp <;> with_reducible rfl)))
        try simp only [Act.put, List.getElem_toArray, List.getElem_cons_zero, List.getElem_cons_succ, List.setIfInBounds_toArray, List.set_cons_zero, List.set_cons_succ]
        first
          | (refine wpAnyH_take (i := 36) (v := undef) rfl (by kernel_rfl) (by kernel_rfl) (by kernel_rfl) (fun _ _ _ h => h) (Or.inr ⟨by rfl, rfl⟩) (by assumption) ?_)
          | (refine wpAnyH_take (i := 36) (v := ?_) rfl (by kernel_rfl) (by kernel_rfl) (by kernel_rfl) (fun _ _ _ h => h) (Or.inl ⟨by rfl, ?_⟩) (by assumption) ?_
             rotate_left
             (intro w hSw
              (try dsimp only at hSw)
              (go_simp <;> with_reducible rfl)))
        try simp only [Act.put, List.getElem_toArray, List.getElem_cons_zero, List.getElem_cons_succ, List.setIfInBounds_toArray, List.set_cons_zero, List.set_cons_succ]
        refine wpAnyH_done (by kernel_rfl) ?_ _
        go_wp2_with fail
        go_meet
        exact ⟨rfl, G13⟩
      case rest =>
      obtain ⟨rfl, GX⟩ := hcut
      clear z0 z1 z2 z3 z4 z5 z6 z7
      generalize wc = w1z at *
      have BPz := hide (GX.out.blk (fun h => h) BP9.out)
      have BAz := hide (GX.out.blk (fun h => h) BA9.out)
      have BBz := hide (GX.out.blk (fun h => h) BB9.out)
      have TA1 := hide (TA9.out.all GX.out)
      have TB1 := hide (TB9.out.all GX.out)
      have T1 := hide (T9.out.all GX.out)
      have IP1 := hide (IP9.out.all GX.out)
      have G1z := hide (G9.out.trans GX.out)
      have HAB : Hid (A < w1z.heap.size ∧ B < w1z.heap.size) := hide ⟨blk_lt BAz.out, blk_lt BBz.out⟩
      clear BP9 BA9 BB9 TA9 TB9 T9 IP9 TL9 TC9 TM9 GX G9 BC
      have z0 : w1z.cell? ⟨A, 0, none⟩ = some (.slice aa b.len ac) := blk_cell BAz.out 0
      have z1 : w1z.cell? ⟨A, 1, none⟩ = some (.int .i64 k) := blk_cell BAz.out 1
      have z2 : w1z.cell? ⟨A, 2, none⟩ = some (.int .i64 i) := blk_cell BAz.out 2
      have z3 : w1z.cell? ⟨A, 3, none⟩ = some (.slice ad f.len ae) := blk_cell BAz.out 3
      have z4 : w1z.cell? ⟨B, 0, none⟩ = some (.slice ba' y0.len bc') := blk_cell BBz.out 0
      have z5 : w1z.cell? ⟨B, 1, none⟩ = some (.int .i64 y1) := blk_cell BBz.out 1
      have z6 : w1z.cell? ⟨B, 2, none⟩ = some (.int .i64 y2) := blk_cell BBz.out 2
      have z7 : w1z.cell? ⟨B, 3, none⟩ = some (.slice bd y3.len be) := blk_cell BBz.out 3
      go_upto_region 11 with fail
      go_cut [12, 13] (fun s12 s13 wx => ∃ (O : Nat) (ra : Option Addr) (rc : Nat) (rd : Option Addr) (re : Nat), s12 = .pointer (some ⟨O, 0, none⟩) ∧ s13 = .int .i64 0 ∧ Hid (wx.heap[O]? = some (.cells #[.slice ra b.len rc, .int .i64 k, .int .i64 i, .slice rd f.len re] 35)) ∧ Hid (TV wx (fun x => x < wx.heap.size) (.agg #[.slice ra b.len rc, .int .i64 k, .int .i64 i, .slice rd f.len re]) (b, k, i, f)) ∧ Hid (Chg (fun _ => False) w1z wx))
      case first =>
        refine wp_region_held_drew (S := (fun w' => w'.cell? ⟨A, 0, none⟩ = some (.slice aa b.len ac) ∧ w'.cell? ⟨A, 1, none⟩ = some (.int .i64 k) ∧ w'.cell? ⟨A, 2, none⟩ = some (.int .i64 i) ∧ w'.cell? ⟨A, 3, none⟩ = some (.slice ad f.len ae) ∧ w'.cell? ⟨B, 0, none⟩ = some (.slice ba' y0.len bc') ∧ w'.cell? ⟨B, 1, none⟩ = some (.int .i64 y1) ∧ w'.cell? ⟨B, 2, none⟩ = some (.int .i64 y2) ∧ w'.cell? ⟨B, 3, none⟩ = some (.slice bd y3.len be))) (by kernel_rfl) (by go_keep) (fun hHeld => ?_)
        first
          | (refine wpAnyH_take (i := 0) (v := undef) rfl (by kernel_rfl) (by kernel_rfl) (by kernel_rfl) (fun _ _ _ h => h) (Or.inr ⟨by rfl, rfl⟩) (by assumption) ?_)
          | (refine wpAnyH_take (i := 0) (v := ?_) rfl (by kernel_rfl) (by kernel_rfl) (by kernel_rfl) (fun _ _ _ h => h) (Or.inl ⟨by rfl, ?_⟩) (by assumption) ?_
             rotate_left
             (intro w hSw
              (try dsimp only at hSw)
              (go_simp <;> with_reducible rfl)))
        try simp only [Act.put, List.getElem_toArray, List.getElem_cons_zero, List.getElem_cons_succ, List.setIfInBounds_toArray, List.set_cons_zero, List.set_cons_succ]
        first
          | (refine wpAnyH_take (i := 1) (v := undef) rfl (by kernel_rfl) (by kernel_rfl) (by kernel_rfl) (fun _ _ _ h => h) (Or.inr ⟨by rfl, rfl⟩) (by assumption) ?_)
          | (refine wpAnyH_take (i := 1) (v := ?_) rfl (by kernel_rfl) (by kernel_rfl) (by kernel_rfl) (fun _ _ _ h => h) (Or.inl ⟨by rfl, ?_⟩) (by assumption) ?_
             rotate_left
             (intro w hSw
              (try dsimp only at hSw)
              (go_simp <;> with_reducible rfl)))
        try simp only [Act.put, List.getElem_toArray, List.getElem_cons_zero, List.getElem_cons_succ, List.setIfInBounds_toArray, List.set_cons_zero, List.set_cons_succ]
        first
          | (refine wpAnyH_take (i := 3) (v := undef) rfl (by kernel_rfl) (by kernel_rfl) (by kernel_rfl) (fun _ _ _ h => h) (Or.inr ⟨by rfl, rfl⟩) (by assumption) ?_)
          | (refine wpAnyH_take (i := 3) (v := ?_) rfl (by kernel_rfl) (by kernel_rfl) (by kernel_rfl) (fun _ _ _ h => h) (Or.inl ⟨by rfl, ?_⟩) (by assumption) ?_
             rotate_left
             (intro w hSw
              (try dsimp only at hSw)
              (go_simp <;> with_reducible rfl)))
        try simp only [Act.put, List.getElem_toArray, List.getElem_cons_zero, List.getElem_cons_succ, List.setIfInBounds_toArray, List.set_cons_zero, List.set_cons_succ]
        refine wpAnyH_ready (rs := [2, 8]) (by kernel_rfl) (by simp) ?_
        refine AllReadyH.cons (i := 2) (o := _) rfl (fun K hK => ?_) ?_
        · go_simp
          have GB0 : Hid (Chg (fun _ => False) w1z w1z.drew) := hide ((Chg.refl (fun _ => False) w1z).drew)
          refine (body_any (y0, y1, y2, y3) OKY.out _ (fun x => x < w1z.heap.size) w1z.drew (fun x hx => Nat.lt_of_lt_of_le hx GB0.out.size) (TB1.out.chg GB0.out (fun _ _ h => h))).mono ?_
          rintro e w2 ⟨⟨v', rfl, tv⟩, g'⟩
          obtain ⟨qa, qc, qd, qe, rfl, _, _⟩ := id tv
          dsimp only [Tm.bs, Tm.kd, Tm.ix, Tm.ag]
          dsimp only [Fs.len]
          have GB : Hid (Chg (fun _ => False) w1z w2) := hide (GB0.out.trans g')
          have TQ : Hid (TV w2 (fun x => w1z.drew.heap.size ≤ x ∧ x < w2.heap.size) (.agg #[.slice qa 0 qc, .int .i64 y1, .int .i64 y2, .slice qd y3.len qe]) (.nil, y1, y2, y3)) := hide tv
          have SQ : Hid (w1z.heap.size ≤ w1z.drew.heap.size ∧ w1z.drew.heap.size ≤ w2.heap.size) := hide ⟨GB0.out.size, g'.size⟩
          have z0 := g'.cell (fun h => h) z0
          have z1 := g'.cell (fun h => h) z1
          have z2 := g'.cell (fun h => h) z2
          have z3 := g'.cell (fun h => h) z3
          have z4 := g'.cell (fun h => h) z4
          have z5 := g'.cell (fun h => h) z5
          have z6 := g'.cell (fun h => h) z6
          have z7 := g'.cell (fun h => h) z7
          clear g' tv GB0
          go_simp
          refine hK.out _ _ ⟨z0, z1, z2, z3, z4, z5, z6, z7⟩ (fun hHeld => ?_)
          clear hK K
          try simp only [Act.put, List.getElem_toArray, List.getElem_cons_zero, List.getElem_cons_succ, List.setIfInBounds_toArray, List.set_cons_zero, List.set_cons_succ]
          refine wpAnyH_ready (rs := [4, 8]) (by kernel_rfl) (by simp) ?_
          refine AllReadyH.cons (i := 4) (o := _) rfl (fun K hK => ?_) ?_
          · go_simp
            have GC0 : Hid (Chg (fun _ => False) w2 w2) := hide (Chg.refl (fun _ => False) w2)
            have GC1 : Hid (Chg (fun _ => False) w1z w2) := hide (GB.out.trans GC0.out)
            refine (rp_self (b, k, i, f) (y0, y1, y2, y3) p _ _ _ (fun x => x < w1z.heap.size ∨ (w1z.drew.heap.size ≤ x ∧ x < w2.heap.size)) w2 OK.out RS.out (fun x hx => by have := GC0.out.size; have := GC1.out.size; rcases hx with hx | hx <;> omega) ((TA1.out.chg GC1.out (fun _ _ h => h)).up (fun x hx => Or.inl hx)) ((TQ.out.chg GC0.out (fun _ _ h => h)).up (fun x hx => Or.inr hx)) (IP1.out.all GC1.out)).mono ?_
            rintro e w3 ⟨⟨v', rfl, tv⟩, g'⟩
            obtain ⟨ra, rc, rd, re, rfl, _, _⟩ := id tv
            dsimp only [Tm.bs, Tm.kd, Tm.ix, Tm.ag]
            have GD : Hid (Chg (fun _ => False) w1z w3) := hide (GC1.out.trans g')
            have TR : Hid (TV w3 (fun x => (x < w1z.heap.size ∨ (w1z.drew.heap.size ≤ x ∧ x < w2.heap.size)) ∨ (w2.heap.size ≤ x ∧ x < w3.heap.size)) (.agg #[.slice ra b.len rc, .int .i64 k, .int .i64 i, .slice rd f.len re]) (b, k, i, f)) := hide tv
            have SD : Hid (w2.heap.size ≤ w2.heap.size ∧ w2.heap.size ≤ w3.heap.size) := hide ⟨GC0.out.size, g'.size⟩
            have z0 := g'.cell (fun h => h) z0
            have z1 := g'.cell (fun h => h) z1
            have z2 := g'.cell (fun h => h) z2
            have z3 := g'.cell (fun h => h) z3
            have z4 := g'.cell (fun h => h) z4
            have z5 := g'.cell (fun h => h) z5
            have z6 := g'.cell (fun h => h) z6
            have z7 := g'.cell (fun h => h) z7
            clear g' tv GC0 GC1
            go_simp
            refine hK.out _ _ ⟨z0, z1, z2, z3, z4, z5, z6, z7⟩ (fun hHeld => ?_)
            clear hK K
            try simp only [Act.put, List.getElem_toArray, List.getElem_cons_zero, List.getElem_cons_succ, List.setIfInBounds_toArray, List.set_cons_zero, List.set_cons_succ]
            first
              | (refine wpAnyH_take (i := 5) (v := undef) rfl (by kernel_rfl) (by kernel_rfl) (by kernel_rfl) (fun _ _ _ h => h) (Or.inr ⟨by rfl, rfl⟩) (by assumption) ?_)
              | (refine wpAnyH_take (i := 5) (v := ?_) rfl (by kernel_rfl) (by kernel_rfl) (by kernel_rfl) (fun _ _ _ h => h) (Or.inl ⟨by rfl, ?_⟩) (by assumption) ?_
                 rotate_left
                 (intro w hSw
                  (try dsimp only at hSw)
                  (go_simp <;> with_reducible rfl)))
            try simp only [Act.put, List.getElem_toArray, List.getElem_cons_zero, List.getElem_cons_succ, List.setIfInBounds_toArray, List.set_cons_zero, List.set_cons_succ]
            first
              | (refine wpAnyH_take (i := 6) (v := undef) rfl (by kernel_rfl) (by kernel_rfl) (by kernel_rfl) (fun _ _ _ h => h) (Or.inr ⟨by rfl, rfl⟩) (by assumption) ?_)
              | (refine wpAnyH_take (i := 6) (v := ?_) rfl (by kernel_rfl) (by kernel_rfl) (by kernel_rfl) (fun _ _ _ h => h) (Or.inl ⟨by rfl, ?_⟩) (by assumption) ?_
                 rotate_left
                 (intro w hSw
                  (try dsimp only at hSw)
                  (go_simp <;> with_reducible rfl)))
            try simp only [Act.put, List.getElem_toArray, List.getElem_cons_zero, List.getElem_cons_succ, List.setIfInBounds_toArray, List.set_cons_zero, List.set_cons_succ]
            first
              | (refine wpAnyH_take (i := 7) (v := undef) rfl (by kernel_rfl) (by kernel_rfl) (by kernel_rfl) (fun _ _ _ h => h) (Or.inr ⟨by rfl, rfl⟩) (by assumption) ?_)
              | (refine wpAnyH_take (i := 7) (v := ?_) rfl (by kernel_rfl) (by kernel_rfl) (by kernel_rfl) (fun _ _ _ h => h) (Or.inl ⟨by rfl, ?_⟩) (by assumption) ?_
                 rotate_left
                 (intro w hSw
                  (try dsimp only at hSw)
                  (go_simp <;> with_reducible rfl)))
            try simp only [Act.put, List.getElem_toArray, List.getElem_cons_zero, List.getElem_cons_succ, List.setIfInBounds_toArray, List.set_cons_zero, List.set_cons_succ]
            refine wpAnyH_ready (rs := [8]) (by kernel_rfl) (by simp) ?_
            refine AllReadyH.cons (i := 8) (o := _) rfl (fun K hK => ?_) ?_
            rotate_left
            · exact AllReadyH.nil
            have GA := al w3 (.cells #[.slice none 0 0, .int .i64 0, .int .i64 0, .slice none 0 0] 35)
            have BO := hide (blk_new w3 (.cells #[.slice none 0 0, .int .i64 0, .int .i64 0, .slice none 0 0] 35))
            have SO : Hid (w3.heap.size < (w3.alloc (.cells #[.slice none 0 0, .int .i64 0, .int .i64 0, .slice none 0 0] 35)).heap.size) := hide (blk_lt BO.out)
            have z0 := GA.cell (fun h => h) z0
            have z1 := GA.cell (fun h => h) z1
            have z2 := GA.cell (fun h => h) z2
            have z3 := GA.cell (fun h => h) z3
            have z4 := GA.cell (fun h => h) z4
            have z5 := GA.cell (fun h => h) z5
            have z6 := GA.cell (fun h => h) z6
            have z7 := GA.cell (fun h => h) z7
            have GAL := hide GA
            clear GA
            go_simp
            refine hK.out _ _ ⟨z0, z1, z2, z3, z4, z5, z6, z7⟩ (fun hHeld => ?_)
            clear hK K
            try simp only [Act.put, List.getElem_toArray, List.getElem_cons_zero, List.getElem_cons_succ, List.setIfInBounds_toArray, List.set_cons_zero, List.set_cons_succ]
            obtain ⟨O, hO⟩ : ∃ O, w3.heap.size = O := ⟨_, rfl⟩
            rw [hO] at BO ⊢
            have HOO := hide hO
            clear hO
            generalize w3.alloc (.cells #[.slice none 0 0, .int .i64 0, .int .i64 0, .slice none 0 0] 35) = w4 at *
            have TR_lt : Hid (∀ x, ((x < w1z.heap.size ∨ (w1z.drew.heap.size ≤ x ∧ x < w2.heap.size)) ∨ (w2.heap.size ≤ x ∧ x < w3.heap.size)) → x < w4.heap.size) := hide (fun x hx => by have := HOO.out; have := SO.out; have := SQ.out; have := SD.out; have := GD.out.size; rcases hx with (hx | hx) | hx <;> omega)
            have TR := hide (TR.out.chg GAL.out (fun _ _ h => h))
            have GD := hide (GD.out.trans GAL.out)
            have HNO : Hid (A < O ∧ B < O ∧ w1z.heap.size ≤ O) := hide (by have := HAB.out; have := HOO.out; have := SO.out; have := SQ.out; have := SD.out; omega)
            refine wpAnyH_ready (rs := [9]) (by kernel_rfl) (by simp) ?_
            refine AllReadyH.cons (i := 9) (o := _) rfl (fun K hK => ?_) ?_
            rotate_left
            · exact AllReadyH.nil
            have b0 := blk_cell BO.out 0
            have ff0 := blk_free BO.out 0
            have b1 := blk_cell BO.out 1
            have ff1 := blk_free BO.out 1
            have b2 := blk_cell BO.out 2
            have ff2 := blk_free BO.out 2
            have b3 := blk_cell BO.out 3
            have ff3 := blk_free BO.out 3
            simp only [List.getElem?_toArray, List.getElem?_cons_zero, List.getElem?_cons_succ] at b0 b1 b2 b3
            have NS : Hid (((((w4.setCell ⟨O, 0, none⟩ (.slice ra b.len rc)).setCell ⟨O, 1, none⟩ (.int .i64 k)).setCell ⟨O, 2, none⟩ (.int .i64 i)).setCell ⟨O, 3, none⟩ (.slice rd f.len re)).heap[O]? = some (.cells #[.slice ra b.len rc, .int .i64 k, .int .i64 i, .slice rd f.len re] 35) ∧ Chg (fun x => x = O) w4 ((((w4.setCell ⟨O, 0, none⟩ (.slice ra b.len rc)).setCell ⟨O, 1, none⟩ (.int .i64 k)).setCell ⟨O, 2, none⟩ (.int .i64 i)).setCell ⟨O, 3, none⟩ (.slice rd f.len re))) := hide ⟨(blk_set (blk_set (blk_set (blk_set BO.out 0 (.slice ra b.len rc)) 1 (.int .i64 k)) 2 (.int .i64 i)) 3 (.slice rd f.len re)), ((((Chg.set w4 O 0 (.slice ra b.len rc)).trans (Chg.set (w4.setCell ⟨O, 0, none⟩ (.slice ra b.len rc)) O 1 (.int .i64 k))).trans (Chg.set ((w4.setCell ⟨O, 0, none⟩ (.slice ra b.len rc)).setCell ⟨O, 1, none⟩ (.int .i64 k)) O 2 (.int .i64 i))).trans (Chg.set (((w4.setCell ⟨O, 0, none⟩ (.slice ra b.len rc)).setCell ⟨O, 1, none⟩ (.int .i64 k)).setCell ⟨O, 2, none⟩ (.int .i64 i)) O 3 (.slice rd f.len re)))⟩
            go_simp
            refine hK.out _ _ ⟨NS.out.2.cell (by have := HNO.out; omega) z0, NS.out.2.cell (by have := HNO.out; omega) z1, NS.out.2.cell (by have := HNO.out; omega) z2, NS.out.2.cell (by have := HNO.out; omega) z3, NS.out.2.cell (by have := HNO.out; omega) z4, NS.out.2.cell (by have := HNO.out; omega) z5, NS.out.2.cell (by have := HNO.out; omega) z6, NS.out.2.cell (by have := HNO.out; omega) z7⟩ (fun hHeld => ?_)
            clear hK K
            try simp only [Act.put, List.getElem_toArray, List.getElem_cons_zero, List.getElem_cons_succ, List.setIfInBounds_toArray, List.set_cons_zero, List.set_cons_succ]
            first
              | (refine wpAnyH_take (i := 10) (v := undef) rfl (by kernel_rfl) (by kernel_rfl) (by kernel_rfl) (fun _ _ _ h => h) (Or.inr ⟨by rfl, rfl⟩) (by assumption) ?_)
              | (refine wpAnyH_take (i := 10) (v := ?_) rfl (by kernel_rfl) (by kernel_rfl) (by kernel_rfl) (fun _ _ _ h => h) (Or.inl ⟨by rfl, ?_⟩) (by assumption) ?_
                 rotate_left
                 (intro w hSw
                  (try dsimp only at hSw)
                  (go_simp <;> with_reducible rfl)))
            try simp only [Act.put, List.getElem_toArray, List.getElem_cons_zero, List.getElem_cons_succ, List.setIfInBounds_toArray, List.set_cons_zero, List.set_cons_succ]
            refine wpAnyH_done (by kernel_rfl) ?_ _
            go_wp2_with fail
            go_meet
            exact ⟨O, ra, rc, rd, re, rfl, rfl, hide NS.out.1, hide ((TR.out.chg NS.out.2 (fun x hx e => by have := HOO.out; have := SO.out; have := SQ.out; have := SD.out; rcases hx with (hx | hx) | hx <;> omega)).up (fun x hx => Nat.lt_of_lt_of_le (TR_lt.out x hx) NS.out.2.size)), hide (((GD.out.none (S := fun x => x = O)).trans NS.out.2).mono (fun x hx e => by have := HNO.out; omega))⟩
          refine AllReadyH.cons (i := 8) (o := _) rfl (fun K hK => ?_) ?_
          rotate_left
          · exact AllReadyH.nil
          have GA := al w2 (.cells #[.slice none 0 0, .int .i64 0, .int .i64 0, .slice none 0 0] 35)
          have BO := hide (blk_new w2 (.cells #[.slice none 0 0, .int .i64 0, .int .i64 0, .slice none 0 0] 35))
          have SO : Hid (w2.heap.size < (w2.alloc (.cells #[.slice none 0 0, .int .i64 0, .int .i64 0, .slice none 0 0] 35)).heap.size) := hide (blk_lt BO.out)
          have z0 := GA.cell (fun h => h) z0
          have z1 := GA.cell (fun h => h) z1
          have z2 := GA.cell (fun h => h) z2
          have z3 := GA.cell (fun h => h) z3
          have z4 := GA.cell (fun h => h) z4
          have z5 := GA.cell (fun h => h) z5
          have z6 := GA.cell (fun h => h) z6
          have z7 := GA.cell (fun h => h) z7
          have GAL := hide GA
          clear GA
          go_simp
          refine hK.out _ _ ⟨z0, z1, z2, z3, z4, z5, z6, z7⟩ (fun hHeld => ?_)
          clear hK K
          try simp only [Act.put, List.getElem_toArray, List.getElem_cons_zero, List.getElem_cons_succ, List.setIfInBounds_toArray, List.set_cons_zero, List.set_cons_succ]
          obtain ⟨O, hO⟩ : ∃ O, w2.heap.size = O := ⟨_, rfl⟩
          rw [hO] at BO ⊢
          have HOO := hide hO
          clear hO
          generalize w2.alloc (.cells #[.slice none 0 0, .int .i64 0, .int .i64 0, .slice none 0 0] 35) = w3 at *
          refine wpAnyH_ready (rs := [4]) (by kernel_rfl) (by simp) ?_
          refine AllReadyH.cons (i := 4) (o := _) rfl (fun K hK => ?_) ?_
          rotate_left
          · exact AllReadyH.nil
          go_simp
          have GC0 : Hid (Chg (fun _ => False) w2 w3) := hide (GAL.out)
          have GC1 : Hid (Chg (fun _ => False) w1z w3) := hide (GB.out.trans GC0.out)
          refine (rp_self (b, k, i, f) (y0, y1, y2, y3) p _ _ _ (fun x => x < w1z.heap.size ∨ (w1z.drew.heap.size ≤ x ∧ x < w2.heap.size)) w3 OK.out RS.out (fun x hx => by have := GC0.out.size; have := GC1.out.size; rcases hx with hx | hx <;> omega) ((TA1.out.chg GC1.out (fun _ _ h => h)).up (fun x hx => Or.inl hx)) ((TQ.out.chg GC0.out (fun _ _ h => h)).up (fun x hx => Or.inr hx)) (IP1.out.all GC1.out)).mono ?_
          rintro e w4 ⟨⟨v', rfl, tv⟩, g'⟩
          obtain ⟨ra, rc, rd, re, rfl, _, _⟩ := id tv
          dsimp only [Tm.bs, Tm.kd, Tm.ix, Tm.ag]
          have GD : Hid (Chg (fun _ => False) w1z w4) := hide (GC1.out.trans g')
          have TR : Hid (TV w4 (fun x => (x < w1z.heap.size ∨ (w1z.drew.heap.size ≤ x ∧ x < w2.heap.size)) ∨ (w3.heap.size ≤ x ∧ x < w4.heap.size)) (.agg #[.slice ra b.len rc, .int .i64 k, .int .i64 i, .slice rd f.len re]) (b, k, i, f)) := hide tv
          have SD : Hid (w2.heap.size ≤ w3.heap.size ∧ w3.heap.size ≤ w4.heap.size) := hide ⟨GC0.out.size, g'.size⟩
          have BO := hide (g'.blk (fun h => h) BO.out)
          have z0 := g'.cell (fun h => h) z0
          have z1 := g'.cell (fun h => h) z1
          have z2 := g'.cell (fun h => h) z2
          have z3 := g'.cell (fun h => h) z3
          have z4 := g'.cell (fun h => h) z4
          have z5 := g'.cell (fun h => h) z5
          have z6 := g'.cell (fun h => h) z6
          have z7 := g'.cell (fun h => h) z7
          clear g' tv GC0 GC1
          go_simp
          refine hK.out _ _ ⟨z0, z1, z2, z3, z4, z5, z6, z7⟩ (fun hHeld => ?_)
          clear hK K
          try simp only [Act.put, List.getElem_toArray, List.getElem_cons_zero, List.getElem_cons_succ, List.setIfInBounds_toArray, List.set_cons_zero, List.set_cons_succ]
          first
            | (refine wpAnyH_take (i := 5) (v := undef) rfl (by kernel_rfl) (by kernel_rfl) (by kernel_rfl) (fun _ _ _ h => h) (Or.inr ⟨by rfl, rfl⟩) (by assumption) ?_)
            | (refine wpAnyH_take (i := 5) (v := ?_) rfl (by kernel_rfl) (by kernel_rfl) (by kernel_rfl) (fun _ _ _ h => h) (Or.inl ⟨by rfl, ?_⟩) (by assumption) ?_
               rotate_left
               (intro w hSw
                (try dsimp only at hSw)
                (go_simp <;> with_reducible rfl)))
          try simp only [Act.put, List.getElem_toArray, List.getElem_cons_zero, List.getElem_cons_succ, List.setIfInBounds_toArray, List.set_cons_zero, List.set_cons_succ]
          first
            | (refine wpAnyH_take (i := 6) (v := undef) rfl (by kernel_rfl) (by kernel_rfl) (by kernel_rfl) (fun _ _ _ h => h) (Or.inr ⟨by rfl, rfl⟩) (by assumption) ?_)
            | (refine wpAnyH_take (i := 6) (v := ?_) rfl (by kernel_rfl) (by kernel_rfl) (by kernel_rfl) (fun _ _ _ h => h) (Or.inl ⟨by rfl, ?_⟩) (by assumption) ?_
               rotate_left
               (intro w hSw
                (try dsimp only at hSw)
                (go_simp <;> with_reducible rfl)))
          try simp only [Act.put, List.getElem_toArray, List.getElem_cons_zero, List.getElem_cons_succ, List.setIfInBounds_toArray, List.set_cons_zero, List.set_cons_succ]
          first
            | (refine wpAnyH_take (i := 7) (v := undef) rfl (by kernel_rfl) (by kernel_rfl) (by kernel_rfl) (fun _ _ _ h => h) (Or.inr ⟨by rfl, rfl⟩) (by assumption) ?_)
            | (refine wpAnyH_take (i := 7) (v := ?_) rfl (by kernel_rfl) (by kernel_rfl) (by kernel_rfl) (fun _ _ _ h => h) (Or.inl ⟨by rfl, ?_⟩) (by assumption) ?_
               rotate_left
               (intro w hSw
                (try dsimp only at hSw)
                (go_simp <;> with_reducible rfl)))
          try simp only [Act.put, List.getElem_toArray, List.getElem_cons_zero, List.getElem_cons_succ, List.setIfInBounds_toArray, List.set_cons_zero, List.set_cons_succ]
          have TR_lt : Hid (∀ x, ((x < w1z.heap.size ∨ (w1z.drew.heap.size ≤ x ∧ x < w2.heap.size)) ∨ (w3.heap.size ≤ x ∧ x < w4.heap.size)) → x < w4.heap.size) := hide (fun x hx => by have := HOO.out; have := SO.out; have := SQ.out; have := SD.out; have := GD.out.size; rcases hx with (hx | hx) | hx <;> omega)
          have HNO : Hid (A < O ∧ B < O ∧ w1z.heap.size ≤ O) := hide (by have := HAB.out; have := HOO.out; have := SO.out; have := SQ.out; have := SD.out; omega)
          refine wpAnyH_ready (rs := [9]) (by kernel_rfl) (by simp) ?_
          refine AllReadyH.cons (i := 9) (o := _) rfl (fun K hK => ?_) ?_
          rotate_left
          · exact AllReadyH.nil
          have b0 := blk_cell BO.out 0
          have ff0 := blk_free BO.out 0
          have b1 := blk_cell BO.out 1
          have ff1 := blk_free BO.out 1
          have b2 := blk_cell BO.out 2
          have ff2 := blk_free BO.out 2
          have b3 := blk_cell BO.out 3
          have ff3 := blk_free BO.out 3
          simp only [List.getElem?_toArray, List.getElem?_cons_zero, List.getElem?_cons_succ] at b0 b1 b2 b3
          have NS : Hid (((((w4.setCell ⟨O, 0, none⟩ (.slice ra b.len rc)).setCell ⟨O, 1, none⟩ (.int .i64 k)).setCell ⟨O, 2, none⟩ (.int .i64 i)).setCell ⟨O, 3, none⟩ (.slice rd f.len re)).heap[O]? = some (.cells #[.slice ra b.len rc, .int .i64 k, .int .i64 i, .slice rd f.len re] 35) ∧ Chg (fun x => x = O) w4 ((((w4.setCell ⟨O, 0, none⟩ (.slice ra b.len rc)).setCell ⟨O, 1, none⟩ (.int .i64 k)).setCell ⟨O, 2, none⟩ (.int .i64 i)).setCell ⟨O, 3, none⟩ (.slice rd f.len re))) := hide ⟨(blk_set (blk_set (blk_set (blk_set BO.out 0 (.slice ra b.len rc)) 1 (.int .i64 k)) 2 (.int .i64 i)) 3 (.slice rd f.len re)), ((((Chg.set w4 O 0 (.slice ra b.len rc)).trans (Chg.set (w4.setCell ⟨O, 0, none⟩ (.slice ra b.len rc)) O 1 (.int .i64 k))).trans (Chg.set ((w4.setCell ⟨O, 0, none⟩ (.slice ra b.len rc)).setCell ⟨O, 1, none⟩ (.int .i64 k)) O 2 (.int .i64 i))).trans (Chg.set (((w4.setCell ⟨O, 0, none⟩ (.slice ra b.len rc)).setCell ⟨O, 1, none⟩ (.int .i64 k)).setCell ⟨O, 2, none⟩ (.int .i64 i)) O 3 (.slice rd f.len re)))⟩
          go_simp
          refine hK.out _ _ ⟨NS.out.2.cell (by have := HNO.out; omega) z0, NS.out.2.cell (by have := HNO.out; omega) z1, NS.out.2.cell (by have := HNO.out; omega) z2, NS.out.2.cell (by have := HNO.out; omega) z3, NS.out.2.cell (by have := HNO.out; omega) z4, NS.out.2.cell (by have := HNO.out; omega) z5, NS.out.2.cell (by have := HNO.out; omega) z6, NS.out.2.cell (by have := HNO.out; omega) z7⟩ (fun hHeld => ?_)
          clear hK K
          try simp only [Act.put, List.getElem_toArray, List.getElem_cons_zero, List.getElem_cons_succ, List.setIfInBounds_toArray, List.set_cons_zero, List.set_cons_succ]
          first
            | (refine wpAnyH_take (i := 10) (v := undef) rfl (by kernel_rfl) (by kernel_rfl) (by kernel_rfl) (fun _ _ _ h => h) (Or.inr ⟨by rfl, rfl⟩) (by assumption) ?_)
            | (refine wpAnyH_take (i := 10) (v := ?_) rfl (by kernel_rfl) (by kernel_rfl) (by kernel_rfl) (fun _ _ _ h => h) (Or.inl ⟨by rfl, ?_⟩) (by assumption) ?_
               rotate_left
               (intro w hSw
                (try dsimp only at hSw)
                (go_simp <;> with_reducible rfl)))
          try simp only [Act.put, List.getElem_toArray, List.getElem_cons_zero, List.getElem_cons_succ, List.setIfInBounds_toArray, List.set_cons_zero, List.set_cons_succ]
          refine wpAnyH_done (by kernel_rfl) ?_ _
          go_wp2_with fail
          go_meet
          exact ⟨O, ra, rc, rd, re, rfl, rfl, hide NS.out.1, hide ((TR.out.chg NS.out.2 (fun x hx e => by have := HOO.out; have := SO.out; have := SQ.out; have := SD.out; rcases hx with (hx | hx) | hx <;> omega)).up (fun x hx => Nat.lt_of_lt_of_le (TR_lt.out x hx) NS.out.2.size)), hide (((GD.out.none (S := fun x => x = O)).trans NS.out.2).mono (fun x hx e => by have := HNO.out; omega))⟩
        refine AllReadyH.cons (i := 8) (o := _) rfl (fun K hK => ?_) ?_
        rotate_left
        · exact AllReadyH.nil
        have GA := (al w1z (.cells #[.slice none 0 0, .int .i64 0, .int .i64 0, .slice none 0 0] 35)).drew
        have BO : Hid ((w1z.alloc (.cells #[.slice none 0 0, .int .i64 0, .int .i64 0, .slice none 0 0] 35)).drew.heap[w1z.heap.size]? = some (.cells #[.slice none 0 0, .int .i64 0, .int .i64 0, .slice none 0 0] 35)) := hide (blk_new w1z (.cells #[.slice none 0 0, .int .i64 0, .int .i64 0, .slice none 0 0] 35))
        have SO : Hid (w1z.heap.size < (w1z.alloc (.cells #[.slice none 0 0, .int .i64 0, .int .i64 0, .slice none 0 0] 35)).drew.heap.size) := hide (blk_lt BO.out)
        have z0 := GA.cell (fun h => h) z0
        have z1 := GA.cell (fun h => h) z1
        have z2 := GA.cell (fun h => h) z2
        have z3 := GA.cell (fun h => h) z3
        have z4 := GA.cell (fun h => h) z4
        have z5 := GA.cell (fun h => h) z5
        have z6 := GA.cell (fun h => h) z6
        have z7 := GA.cell (fun h => h) z7
        have GAL := hide GA
        clear GA
        go_simp
        refine hK.out _ _ ⟨z0, z1, z2, z3, z4, z5, z6, z7⟩ (fun hHeld => ?_)
        clear hK K
        try simp only [Act.put, List.getElem_toArray, List.getElem_cons_zero, List.getElem_cons_succ, List.setIfInBounds_toArray, List.set_cons_zero, List.set_cons_succ]
        obtain ⟨O, hO⟩ : ∃ O, w1z.heap.size = O := ⟨_, rfl⟩
        rw [hO] at BO ⊢
        have HOO := hide hO
        clear hO
        generalize (w1z.alloc (.cells #[.slice none 0 0, .int .i64 0, .int .i64 0, .slice none 0 0] 35)).drew = w2 at *
        refine wpAnyH_ready (rs := [2]) (by kernel_rfl) (by simp) ?_
        refine AllReadyH.cons (i := 2) (o := _) rfl (fun K hK => ?_) ?_
        rotate_left
        · exact AllReadyH.nil
        go_simp
        have GB0 : Hid (Chg (fun _ => False) w1z w2) := hide (GAL.out)
        refine (body_any (y0, y1, y2, y3) OKY.out _ (fun x => x < w1z.heap.size) w2 (fun x hx => Nat.lt_of_lt_of_le hx GB0.out.size) (TB1.out.chg GB0.out (fun _ _ h => h))).mono ?_
        rintro e w3 ⟨⟨v', rfl, tv⟩, g'⟩
        obtain ⟨qa, qc, qd, qe, rfl, _, _⟩ := id tv
        dsimp only [Tm.bs, Tm.kd, Tm.ix, Tm.ag]
        dsimp only [Fs.len]
        have GB : Hid (Chg (fun _ => False) w1z w3) := hide (GB0.out.trans g')
        have TQ : Hid (TV w3 (fun x => w2.heap.size ≤ x ∧ x < w3.heap.size) (.agg #[.slice qa 0 qc, .int .i64 y1, .int .i64 y2, .slice qd y3.len qe]) (.nil, y1, y2, y3)) := hide tv
        have SQ : Hid (w1z.heap.size ≤ w2.heap.size ∧ w2.heap.size ≤ w3.heap.size) := hide ⟨GB0.out.size, g'.size⟩
        have z0 := g'.cell (fun h => h) z0
        have z1 := g'.cell (fun h => h) z1
        have z2 := g'.cell (fun h => h) z2
        have z3 := g'.cell (fun h => h) z3
        have z4 := g'.cell (fun h => h) z4
        have z5 := g'.cell (fun h => h) z5
        have z6 := g'.cell (fun h => h) z6
        have z7 := g'.cell (fun h => h) z7
        have BO := hide (g'.blk (fun h => h) BO.out)
        clear g' tv GB0
        go_simp
        refine hK.out _ _ ⟨z0, z1, z2, z3, z4, z5, z6, z7⟩ (fun hHeld => ?_)
        clear hK K
        try simp only [Act.put, List.getElem_toArray, List.getElem_cons_zero, List.getElem_cons_succ, List.setIfInBounds_toArray, List.set_cons_zero, List.set_cons_succ]
        refine wpAnyH_ready (rs := [4]) (by kernel_rfl) (by simp) ?_
        refine AllReadyH.cons (i := 4) (o := _) rfl (fun K hK => ?_) ?_
        rotate_left
        · exact AllReadyH.nil
        go_simp
        have GC0 : Hid (Chg (fun _ => False) w3 w3) := hide (Chg.refl (fun _ => False) w3)
        have GC1 : Hid (Chg (fun _ => False) w1z w3) := hide (GB.out.trans GC0.out)
        refine (rp_self (b, k, i, f) (y0, y1, y2, y3) p _ _ _ (fun x => x < w1z.heap.size ∨ (w2.heap.size ≤ x ∧ x < w3.heap.size)) w3 OK.out RS.out (fun x hx => by have := GC0.out.size; have := GC1.out.size; rcases hx with hx | hx <;> omega) ((TA1.out.chg GC1.out (fun _ _ h => h)).up (fun x hx => Or.inl hx)) ((TQ.out.chg GC0.out (fun _ _ h => h)).up (fun x hx => Or.inr hx)) (IP1.out.all GC1.out)).mono ?_
        rintro e w4 ⟨⟨v', rfl, tv⟩, g'⟩
        obtain ⟨ra, rc, rd, re, rfl, _, _⟩ := id tv
        dsimp only [Tm.bs, Tm.kd, Tm.ix, Tm.ag]
        have GD : Hid (Chg (fun _ => False) w1z w4) := hide (GC1.out.trans g')
        have TR : Hid (TV w4 (fun x => (x < w1z.heap.size ∨ (w2.heap.size ≤ x ∧ x < w3.heap.size)) ∨ (w3.heap.size ≤ x ∧ x < w4.heap.size)) (.agg #[.slice ra b.len rc, .int .i64 k, .int .i64 i, .slice rd f.len re]) (b, k, i, f)) := hide tv
        have SD : Hid (w3.heap.size ≤ w3.heap.size ∧ w3.heap.size ≤ w4.heap.size) := hide ⟨GC0.out.size, g'.size⟩
        have BO := hide (g'.blk (fun h => h) BO.out)
        have z0 := g'.cell (fun h => h) z0
        have z1 := g'.cell (fun h => h) z1
        have z2 := g'.cell (fun h => h) z2
        have z3 := g'.cell (fun h => h) z3
        have z4 := g'.cell (fun h => h) z4
        have z5 := g'.cell (fun h => h) z5
        have z6 := g'.cell (fun h => h) z6
        have z7 := g'.cell (fun h => h) z7
        clear g' tv GC0 GC1
        go_simp
        refine hK.out _ _ ⟨z0, z1, z2, z3, z4, z5, z6, z7⟩ (fun hHeld => ?_)
        clear hK K
        try simp only [Act.put, List.getElem_toArray, List.getElem_cons_zero, List.getElem_cons_succ, List.setIfInBounds_toArray, List.set_cons_zero, List.set_cons_succ]
        first
          | (refine wpAnyH_take (i := 5) (v := undef) rfl (by kernel_rfl) (by kernel_rfl) (by kernel_rfl) (fun _ _ _ h => h) (Or.inr ⟨by rfl, rfl⟩) (by assumption) ?_)
          | (refine wpAnyH_take (i := 5) (v := ?_) rfl (by kernel_rfl) (by kernel_rfl) (by kernel_rfl) (fun _ _ _ h => h) (Or.inl ⟨by rfl, ?_⟩) (by assumption) ?_
             rotate_left
             (intro w hSw
              (try dsimp only at hSw)
              (go_simp <;> with_reducible rfl)))
        try simp only [Act.put, List.getElem_toArray, List.getElem_cons_zero, List.getElem_cons_succ, List.setIfInBounds_toArray, List.set_cons_zero, List.set_cons_succ]
        first
          | (refine wpAnyH_take (i := 6) (v := undef) rfl (by kernel_rfl) (by kernel_rfl) (by kernel_rfl) (fun _ _ _ h => h) (Or.inr ⟨by rfl, rfl⟩) (by assumption) ?_)
          | (refine wpAnyH_take (i := 6) (v := ?_) rfl (by kernel_rfl) (by kernel_rfl) (by kernel_rfl) (fun _ _ _ h => h) (Or.inl ⟨by rfl, ?_⟩) (by assumption) ?_
             rotate_left
             (intro w hSw
              (try dsimp only at hSw)
              (go_simp <;> with_reducible rfl)))
        try simp only [Act.put, List.getElem_toArray, List.getElem_cons_zero, List.getElem_cons_succ, List.setIfInBounds_toArray, List.set_cons_zero, List.set_cons_succ]
        first
          | (refine wpAnyH_take (i := 7) (v := undef) rfl (by kernel_rfl) (by kernel_rfl) (by kernel_rfl) (fun _ _ _ h => h) (Or.inr ⟨by rfl, rfl⟩) (by assumption) ?_)
          | (refine wpAnyH_take (i := 7) (v := ?_) rfl (by kernel_rfl) (by kernel_rfl) (by kernel_rfl) (fun _ _ _ h => h) (Or.inl ⟨by rfl, ?_⟩) (by assumption) ?_
             rotate_left
             (intro w hSw
              (try dsimp only at hSw)
              (go_simp <;> with_reducible rfl)))
        try simp only [Act.put, List.getElem_toArray, List.getElem_cons_zero, List.getElem_cons_succ, List.setIfInBounds_toArray, List.set_cons_zero, List.set_cons_succ]
        have TR_lt : Hid (∀ x, ((x < w1z.heap.size ∨ (w2.heap.size ≤ x ∧ x < w3.heap.size)) ∨ (w3.heap.size ≤ x ∧ x < w4.heap.size)) → x < w4.heap.size) := hide (fun x hx => by have := HOO.out; have := SO.out; have := SQ.out; have := SD.out; have := GD.out.size; rcases hx with (hx | hx) | hx <;> omega)
        have HNO : Hid (A < O ∧ B < O ∧ w1z.heap.size ≤ O) := hide (by have := HAB.out; have := HOO.out; have := SO.out; have := SQ.out; have := SD.out; omega)
        refine wpAnyH_ready (rs := [9]) (by kernel_rfl) (by simp) ?_
        refine AllReadyH.cons (i := 9) (o := _) rfl (fun K hK => ?_) ?_
        rotate_left
        · exact AllReadyH.nil
        have b0 := blk_cell BO.out 0
        have ff0 := blk_free BO.out 0
        have b1 := blk_cell BO.out 1
        have ff1 := blk_free BO.out 1
        have b2 := blk_cell BO.out 2
        have ff2 := blk_free BO.out 2
        have b3 := blk_cell BO.out 3
        have ff3 := blk_free BO.out 3
        simp only [List.getElem?_toArray, List.getElem?_cons_zero, List.getElem?_cons_succ] at b0 b1 b2 b3
        have NS : Hid (((((w4.setCell ⟨O, 0, none⟩ (.slice ra b.len rc)).setCell ⟨O, 1, none⟩ (.int .i64 k)).setCell ⟨O, 2, none⟩ (.int .i64 i)).setCell ⟨O, 3, none⟩ (.slice rd f.len re)).heap[O]? = some (.cells #[.slice ra b.len rc, .int .i64 k, .int .i64 i, .slice rd f.len re] 35) ∧ Chg (fun x => x = O) w4 ((((w4.setCell ⟨O, 0, none⟩ (.slice ra b.len rc)).setCell ⟨O, 1, none⟩ (.int .i64 k)).setCell ⟨O, 2, none⟩ (.int .i64 i)).setCell ⟨O, 3, none⟩ (.slice rd f.len re))) := hide ⟨(blk_set (blk_set (blk_set (blk_set BO.out 0 (.slice ra b.len rc)) 1 (.int .i64 k)) 2 (.int .i64 i)) 3 (.slice rd f.len re)), ((((Chg.set w4 O 0 (.slice ra b.len rc)).trans (Chg.set (w4.setCell ⟨O, 0, none⟩ (.slice ra b.len rc)) O 1 (.int .i64 k))).trans (Chg.set ((w4.setCell ⟨O, 0, none⟩ (.slice ra b.len rc)).setCell ⟨O, 1, none⟩ (.int .i64 k)) O 2 (.int .i64 i))).trans (Chg.set (((w4.setCell ⟨O, 0, none⟩ (.slice ra b.len rc)).setCell ⟨O, 1, none⟩ (.int .i64 k)).setCell ⟨O, 2, none⟩ (.int .i64 i)) O 3 (.slice rd f.len re)))⟩
        go_simp
        refine hK.out _ _ ⟨NS.out.2.cell (by have := HNO.out; omega) z0, NS.out.2.cell (by have := HNO.out; omega) z1, NS.out.2.cell (by have := HNO.out; omega) z2, NS.out.2.cell (by have := HNO.out; omega) z3, NS.out.2.cell (by have := HNO.out; omega) z4, NS.out.2.cell (by have := HNO.out; omega) z5, NS.out.2.cell (by have := HNO.out; omega) z6, NS.out.2.cell (by have := HNO.out; omega) z7⟩ (fun hHeld => ?_)
        clear hK K
        try simp only [Act.put, List.getElem_toArray, List.getElem_cons_zero, List.getElem_cons_succ, List.setIfInBounds_toArray, List.set_cons_zero, List.set_cons_succ]
        first
          | (refine wpAnyH_take (i := 10) (v := undef) rfl (by kernel_rfl) (by kernel_rfl) (by kernel_rfl) (fun _ _ _ h => h) (Or.inr ⟨by rfl, rfl⟩) (by assumption) ?_)
          | (refine wpAnyH_take (i := 10) (v := ?_) rfl (by kernel_rfl) (by kernel_rfl) (by kernel_rfl) (fun _ _ _ h => h) (Or.inl ⟨by rfl, ?_⟩) (by assumption) ?_
             rotate_left
             (intro w hSw
              (try dsimp only at hSw)
              (go_simp <;> with_reducible rfl)))
        try simp only [Act.put, List.getElem_toArray, List.getElem_cons_zero, List.getElem_cons_succ, List.setIfInBounds_toArray, List.set_cons_zero, List.set_cons_succ]
        refine wpAnyH_done (by kernel_rfl) ?_ _
        go_wp2_with fail
        go_meet
        exact ⟨O, ra, rc, rd, re, rfl, rfl, hide NS.out.1, hide ((TR.out.chg NS.out.2 (fun x hx e => by have := HOO.out; have := SO.out; have := SQ.out; have := SD.out; rcases hx with (hx | hx) | hx <;> omega)).up (fun x hx => Nat.lt_of_lt_of_le (TR_lt.out x hx) NS.out.2.size)), hide (((GD.out.none (S := fun x => x = O)).trans NS.out.2).mono (fun x hx e => by have := HNO.out; omega))⟩
      case rest =>
      obtain ⟨O, ra, rc, rd, re, rfl, rfl, BO, TRy, GZ⟩ := hcut
      generalize wc = wy at *
      have BPy := hide (GZ.out.blk (fun h => h) BPz.out)
      have Ty := hide (T1.out.all GZ.out)
      have GY := hide (G1z.out.trans GZ.out)
      clear z0 z1 z2 z3 z4 z5 z6 z7 TA1 TB1 T1 IP1 BAz BBz
      have z0 : wy.cell? ⟨O, 0, none⟩ = some (.slice ra b.len rc) := blk_cell BO.out 0
      have z1 : wy.cell? ⟨O, 1, none⟩ = some (.int .i64 k) := blk_cell BO.out 1
      have z2 : wy.cell? ⟨O, 2, none⟩ = some (.int .i64 i) := blk_cell BO.out 2
      have z3 : wy.cell? ⟨O, 3, none⟩ = some (.slice rd f.len re) := blk_cell BO.out 3
      have z4 : wy.cell? ⟨P, 0, none⟩ = some (.slice ba b.len bc) := blk_cell BPy.out 0
      have z5 : wy.cell? ⟨P, 1, none⟩ = some (.int .i64 k) := blk_cell BPy.out 1
      have z6 : wy.cell? ⟨P, 2, none⟩ = some (.int .i64 i) := blk_cell BPy.out 2
      have z7 : wy.cell? ⟨P, 3, none⟩ = some (.slice a f.len cap) := blk_cell BPy.out 3
      go_upto_region 12 with fail
      refine wp_region_held_drew (S := (fun w' => w'.cell? ⟨O, 0, none⟩ = some (.slice ra b.len rc) ∧ w'.cell? ⟨O, 1, none⟩ = some (.int .i64 k) ∧ w'.cell? ⟨O, 2, none⟩ = some (.int .i64 i) ∧ w'.cell? ⟨O, 3, none⟩ = some (.slice rd f.len re) ∧ w'.cell? ⟨P, 0, none⟩ = some (.slice ba b.len bc) ∧ w'.cell? ⟨P, 1, none⟩ = some (.int .i64 k) ∧ w'.cell? ⟨P, 2, none⟩ = some (.int .i64 i) ∧ w'.cell? ⟨P, 3, none⟩ = some (.slice a f.len cap))) (by kernel_rfl) (by go_keep) (fun hHeld => ?_)
      first
        | (refine wpAnyH_take (i := 0) (v := undef) rfl (by kernel_rfl) (by kernel_rfl) (by kernel_rfl) (fun _ _ _ h => h) (Or.inr ⟨by rfl, rfl⟩) (by assumption) ?_)
        | (refine wpAnyH_take (i := 0) (v := ?_) rfl (by kernel_rfl) (by kernel_rfl) (by kernel_rfl) (fun _ _ _ h => h) (Or.inl ⟨by rfl, ?_⟩) (by assumption) ?_
           rotate_left
           (intro w hSw
            (try dsimp only at hSw)
            (go_simp <;> with_reducible rfl)))
      try simp only [Act.put, List.getElem_toArray, List.getElem_cons_zero, List.getElem_cons_succ, List.setIfInBounds_toArray, List.set_cons_zero, List.set_cons_succ]
      first
        | (refine wpAnyH_take (i := 1) (v := undef) rfl (by kernel_rfl) (by kernel_rfl) (by kernel_rfl) (fun _ _ _ h => h) (Or.inr ⟨by rfl, rfl⟩) (by assumption) ?_)
        | (refine wpAnyH_take (i := 1) (v := ?_) rfl (by kernel_rfl) (by kernel_rfl) (by kernel_rfl) (fun _ _ _ h => h) (Or.inl ⟨by rfl, ?_⟩) (by assumption) ?_
           rotate_left
           (intro w hSw
            (try dsimp only at hSw)
            (go_simp <;> with_reducible rfl)))
      try simp only [Act.put, List.getElem_toArray, List.getElem_cons_zero, List.getElem_cons_succ, List.setIfInBounds_toArray, List.set_cons_zero, List.set_cons_succ]
      first
        | (refine wpAnyH_take (i := 2) (v := undef) rfl (by kernel_rfl) (by kernel_rfl) (by kernel_rfl) (fun _ _ _ h => h) (Or.inr ⟨by rfl, rfl⟩) (by assumption) ?_)
        | (refine wpAnyH_take (i := 2) (v := ?_) rfl (by kernel_rfl) (by kernel_rfl) (by kernel_rfl) (fun _ _ _ h => h) (Or.inl ⟨by rfl, ?_⟩) (by assumption) ?_
           rotate_left
           (intro w hSw
            (try dsimp only at hSw)
            (go_simp <;> with_reducible rfl)))
      try simp only [Act.put, List.getElem_toArray, List.getElem_cons_zero, List.getElem_cons_succ, List.setIfInBounds_toArray, List.set_cons_zero, List.set_cons_succ]
      first
        | (refine wpAnyH_take (i := 3) (v := undef) rfl (by kernel_rfl) (by kernel_rfl) (by kernel_rfl) (fun _ _ _ h => h) (Or.inr ⟨by rfl, rfl⟩) (by assumption) ?_)
        | (refine wpAnyH_take (i := 3) (v := ?_) rfl (by kernel_rfl) (by kernel_rfl) (by kernel_rfl) (fun _ _ _ h => h) (Or.inl ⟨by rfl, ?_⟩) (by assumption) ?_
           rotate_left
           (intro w hSw
            (try dsimp only at hSw)
            (go_simp <;> with_reducible rfl)))
      try simp only [Act.put, List.getElem_toArray, List.getElem_cons_zero, List.getElem_cons_succ, List.setIfInBounds_toArray, List.set_cons_zero, List.set_cons_succ]
      first
        | (refine wpAnyH_take (i := 5) (v := undef) rfl (by kernel_rfl) (by kernel_rfl) (by kernel_rfl) (fun _ _ _ h => h) (Or.inr ⟨by rfl, rfl⟩) (by assumption) ?_)
        | (refine wpAnyH_take (i := 5) (v := ?_) rfl (by kernel_rfl) (by kernel_rfl) (by kernel_rfl) (fun _ _ _ h => h) (Or.inl ⟨by rfl, ?_⟩) (by assumption) ?_
           rotate_left
           (intro w hSw
            (try dsimp only at hSw)
            (go_simp <;> with_reducible rfl)))
      try simp only [Act.put, List.getElem_toArray, List.getElem_cons_zero, List.getElem_cons_succ, List.setIfInBounds_toArray, List.set_cons_zero, List.set_cons_succ]
      refine wpAnyH_ready (rs := [4]) (by kernel_rfl) (by simp) ?_
      refine AllReadyH.cons (i := 4) (o := _) rfl (fun K hK => ?_) ?_
      rotate_left
      · exact AllReadyH.nil
      go_simp
      refine (of06_any (b, k, i, f) OK.out _ _ wy.drew (fun x h => h) (TRy.out.all (Chg.refl (fun _ => False) wy).drew)).mono ?_
      rintro e w6 ⟨⟨v', rfl, tv⟩, g⟩
      obtain ⟨oa, oc, od, oe, rfl, _, _⟩ := id tv
      dsimp only [Tm.bs, Tm.kd, Tm.ix, Tm.ag]
      have g' := (Chg.refl (fun _ => False) wy).drew.trans g
      have z0 := g'.cell (fun h => h) z0
      have z1 := g'.cell (fun h => h) z1
      have z2 := g'.cell (fun h => h) z2
      have z3 := g'.cell (fun h => h) z3
      have z4 := g'.cell (fun h => h) z4
      have z5 := g'.cell (fun h => h) z5
      have z6 := g'.cell (fun h => h) z6
      have z7 := g'.cell (fun h => h) z7
      have G6 := hide g'
      have TO := hide (tv_new tv)
      clear tv g g'
      go_simp
      refine hK.out _ _ ⟨z0, z1, z2, z3, z4, z5, z6, z7⟩ (fun hHeld => ?_)
      clear hK K
      try simp only [Act.put, List.getElem_toArray, List.getElem_cons_zero, List.getElem_cons_succ, List.setIfInBounds_toArray, List.set_cons_zero, List.set_cons_succ]
      refine wpAnyH_ready (rs := [6]) (by kernel_rfl) (by simp) ?_
      refine AllReadyH.cons (i := 6) (o := _) rfl (fun K hK => ?_) ?_
      rotate_left
      · exact AllReadyH.nil
      go_simp
      refine (same06_any (b, k, i, f) OK.out _ _ _ w6 (fun x h => h) TO.out (Ty.out.all G6.out)).mono ?_
      rintro e w7 ⟨rfl, g'⟩
      have z0 := g'.cell (fun h => h) z0
      have z1 := g'.cell (fun h => h) z1
      have z2 := g'.cell (fun h => h) z2
      have z3 := g'.cell (fun h => h) z3
      have z4 := g'.cell (fun h => h) z4
      have z5 := g'.cell (fun h => h) z5
      have z6 := g'.cell (fun h => h) z6
      have z7 := g'.cell (fun h => h) z7
      have G7 := hide (G6.out.trans g')
      clear g'
      go_simp
      refine hK.out _ _ ⟨z0, z1, z2, z3, z4, z5, z6, z7⟩ (fun hHeld => ?_)
      clear hK K
      try simp only [Act.put, List.getElem_toArray, List.getElem_cons_zero, List.getElem_cons_succ, List.setIfInBounds_toArray, List.set_cons_zero, List.set_cons_succ]
      first
        | (refine wpAnyH_take (i := 7) (v := undef) rfl (by kernel_rfl) (by kernel_rfl) (by kernel_rfl) (fun _ _ _ h => h) (Or.inr ⟨by rfl, rfl⟩) (by assumption) ?_)
        | (refine wpAnyH_take (i := 7) (v := ?_) rfl (by kernel_rfl) (by kernel_rfl) (by kernel_rfl) (fun _ _ _ h => h) (Or.inl ⟨by rfl, ?_⟩) (by assumption) ?_
           rotate_left
           (intro w hSw
            (try dsimp only at hSw)
            (go_simp <;> with_reducible rfl)))
      try simp only [Act.put, List.getElem_toArray, List.getElem_cons_zero, List.getElem_cons_succ, List.setIfInBounds_toArray, List.set_cons_zero, List.set_cons_succ]
      first
        | (refine wpAnyH_take (i := 8) (v := undef) rfl (by kernel_rfl) (by kernel_rfl) (by kernel_rfl) (fun _ _ _ h => h) (Or.inr ⟨by rfl, rfl⟩) (by assumption) ?_)
        | (refine wpAnyH_take (i := 8) (v := ?_) rfl (by kernel_rfl) (by kernel_rfl) (by kernel_rfl) (fun _ _ _ h => h) (Or.inl ⟨by rfl, ?_⟩) (by assumption) ?_
           rotate_left
           (intro w hSw
            (try dsimp only at hSw)
            (go_simp <;> with_reducible rfl)))
      try simp only [Act.put, List.getElem_toArray, List.getElem_cons_zero, List.getElem_cons_succ, List.setIfInBounds_toArray, List.set_cons_zero, List.set_cons_succ]
      refine wpAnyH_done (by kernel_rfl) ?_ _
      have GF := hide (GY.out.trans G7.out)
      go_wp2_with fail
      go_ret
      exact ⟨rfl, GF.out⟩

theorem ats_law (W : World) (hT : Tabs W) (t : Tm) {v : Value} (hv : TmIs W v t) (x : IsIn) {u : Value} (hu : IsIs W u x) : Calls Tryd.prog 3 #[v, u] W fun e W' => e = .returned (.bool true) ∧ Below W.heap.size W W' :=
  (ats_walk t x v u W hv hu).mono fun e W' ⟨h, g⟩ => ⟨h, g.below (Nat.le_refl _) (fun _ h => h.elim)⟩
end Go.Proofs.YtnpcapdlgcaniaaDoor
