/- all, find, Base, Const, Has. -/
import Derived.Test.YtdoohocdaacnaaaDoorAll1
namespace Go.Proofs.YtdoohocdaacnaaaDoor
open Go.RowKit Go.Maps
set_option linter.unusedVariables false
set_option linter.unusedSimpArgs false

set_option maxRecDepth 100000 in
set_option maxHeartbeats 4000000 in
theorem all_done (b L B : Nat) (bs : List ByteArray) (cs : List Cn) (bv cv : Value) (w : World) (h : Ix w b bv cv 1 0 (.map (some B))) :
    Calls Tryd.prog 41 #[.pointer (some ⟨b, 0, none⟩)] w fun e w' => e = .returned (.map (some B)) ∧ Chg (fun _ => False) w w' := by
  have hmf : ∀ (fn : Fn) (first cap : Array Value) (w : World), (Instr.makeFunc fn first cap).run Tryd.prog w = .ok (.func fn first cap) w := fun _ _ _ _ => rfl
  have g0 := al w (.cells #[.pointer (some ⟨b, 0, none⟩)] 42)
  have p0 : (w.alloc (.cells #[.pointer (some ⟨b, 0, none⟩)] 42)).cell? ⟨w.heap.size, 0, none⟩ = some (.pointer (some ⟨b, 0, none⟩)) := blk_cell (blk_new w _) 0
  obtain ⟨w1, hw1⟩ : ∃ w1, w.alloc (.cells #[.pointer (some ⟨b, 0, none⟩)] 42) = w1 := ⟨_, rfl⟩
  rw [hw1] at g0 p0
  have h2 := h.chg g0 (fun h => h)
  have c2 : w1.cell? ⟨b, 2, none⟩ = some (.int .u32 1) := blk_cell h2 2
  have c5 : w1.cell? ⟨b, 5, none⟩ = some (.map (some B)) := blk_cell h2 5
  have dn := hide (fun fv => do_done ⟨b, 2, none⟩ fv _ c2)
  have F := hide g0
  clear h h2 g0
  go_enter Tryd.func41, Tryd.ntmps41
  go_wp2_with (go_at_call 55; refine (dn.out _).mono ?_; rintro e w' ⟨rfl, rfl⟩)
  go_ret
  exact ⟨rfl, F.out⟩

set_option maxRecDepth 100000 in
set_option maxHeartbeats 4000000 in
theorem all_fresh (b L : Nat) (hLb : L ≤ b) (bs : List ByteArray) (cs : List Cn) (hbl : bs.length ≤ 1000) (hcl : cs.length ≤ 1000) (bv cv nm : Value) (w : World) (h : Ix w b bv cv 0 0 nm)
    (hb : Strs w (fun x => L ≤ x ∧ x < b) bv bs) (hc : Cns w (fun x => L ≤ x ∧ x < b) cv cs) :
    Calls Tryd.prog 41 #[.pointer (some ⟨b, 0, none⟩)] w fun e w' => ∃ B m, e = .returned (.map (some B)) ∧ EM w' B m (eC bs cs cs.length) ∧ b < B ∧ Ix w' b bv cv 1 0 (.map (some B)) ∧ Chg (fun x => x = b) w w' := by
  have hmf : ∀ (fn : Fn) (first cap : Array Value) (w : World), (Instr.makeFunc fn first cap).run Tryd.prog w = .ok (.func fn first cap) w := fun _ _ _ _ => rfl
  have g0 := al w (.cells #[.pointer (some ⟨b, 0, none⟩)] 42)
  have p0 : (w.alloc (.cells #[.pointer (some ⟨b, 0, none⟩)] 42)).cell? ⟨w.heap.size, 0, none⟩ = some (.pointer (some ⟨b, 0, none⟩)) := blk_cell (blk_new w _) 0
  obtain ⟨w1, hw1⟩ : ∃ w1, w.alloc (.cells #[.pointer (some ⟨b, 0, none⟩)] 42) = w1 := ⟨_, rfl⟩
  have lb := h.lt
  have ne : w.heap.size ≠ b := by omega
  rw [hw1] at g0 p0
  have h2 := h.chg g0 (fun h => h)
  have hb2 := hb.chg g0 (fun _ _ h => h)
  have hc2 := hc.chg g0 (fun _ _ h => h)
  have sz := g0.size
  have dn := hide (do_first b ⟨w.heap.size, 0, none⟩ bv cv nm (fun w4 nm' => ∃ B m, nm' = .map (some B) ∧ b < B ∧ EM w4 B m (eC bs cs cs.length) ∧ Chg (fun x => x = b) w1 w4) w1 h2
    (fun w3 hr3 g3 => (all1_any b L hLb bs cs hbl hcl bv cv nm w.heap.size w3 hr3 (g3.cell ne p0) ne (hb2.chg g3 (fun x hx e => by omega)) (hc2.chg g3 (fun x hx e => by omega))).mono (fun e w4 ⟨he, nm', hr4, B, m, e2, hB, hE, hC⟩ =>
      ⟨he, _, hr4, B, m, e2, by have := g3.size; omega, hE, g3.trans hC⟩)))
  have F : ∀ w4 nm', Ix w4 b bv cv 0 1 nm' → (∃ B m, nm' = .map (some B) ∧ b < B ∧ EM w4 B m (eC bs cs cs.length) ∧ Chg (fun x => x = b) w1 w4) →
      ∃ B m, ((w4.drew.setCell ⟨b, 2, none⟩ (.int .u32 1)).setCell ⟨b, 3, none⟩ (.int .i32 0)).cell? ⟨b, 5, none⟩ = some (.map (some B)) ∧
        ((w4.drew.setCell ⟨b, 2, none⟩ (.int .u32 1)).setCell ⟨b, 3, none⟩ (.int .i32 0)).cell? ⟨w.heap.size, 0, none⟩ = some (.pointer (some ⟨b, 0, none⟩)) ∧
        EM ((w4.drew.setCell ⟨b, 2, none⟩ (.int .u32 1)).setCell ⟨b, 3, none⟩ (.int .i32 0)) B m (eC bs cs cs.length) ∧ b < B ∧ Ix ((w4.drew.setCell ⟨b, 2, none⟩ (.int .u32 1)).setCell ⟨b, 3, none⟩ (.int .i32 0)) b bv cv 1 0 (.map (some B)) ∧
        Chg (fun x => x = b) w ((w4.drew.setCell ⟨b, 2, none⟩ (.int .u32 1)).setCell ⟨b, 3, none⟩ (.int .i32 0)) := by
    intro w4 nm' hr4 ⟨B, m, e, hB, hE, hC⟩
    subst e
    have s1 : Ix (w4.drew.setCell ⟨b, 2, none⟩ (.int .u32 1)) b bv cv 1 1 (.map (some B)) := blk_set (w := w4.drew) hr4 2 _
    have s2 : Ix ((w4.drew.setCell ⟨b, 2, none⟩ (.int .u32 1)).setCell ⟨b, 3, none⟩ (.int .i32 0)) b bv cv 1 0 (.map (some B)) := blk_set s1 3 _
    have d0 : Chg (fun x => x = b) w4 w4.drew := (Chg.refl _ _).drew
    have d1 := (d0.trans (Chg.set w4.drew b 2 (.int .u32 1))).trans (Chg.set (w4.drew.setCell ⟨b, 2, none⟩ (.int .u32 1)) b 3 (.int .i32 0))
    exact ⟨B, m, blk_cell s2 5, (hC.trans d1).cell ne p0, hE.chg d1 (fun e => by omega), hB, s2, (g0.none.trans hC).trans d1⟩
  have FF := hide F
  clear F h h2 hb hc hb2 hc2 g0 sz
  go_enter Tryd.func41, Tryd.ntmps41
  go_wp2_with (go_at_call 55; refine dn.out.mono ?_; rintro e w' ⟨rfl, w4, rv', hr4, hp4, rfl⟩; obtain ⟨B, m, c5, cp, hE, hB, hI, hC⟩ := FF.out w4 rv' hr4 hp4; have HE := hide hE; have HB := hide hB; have HI := hide hI; have HC := hide hC; clear hE hB hI hC hp4 hr4; generalize ((w4.drew.setCell ⟨b, 2, none⟩ (.int .u32 1)).setCell ⟨b, 3, none⟩ (.int .i32 0)) = w5 at *)
  go_ret
  exact ⟨B, m, rfl, HE.out, HB.out, HI.out, HC.out⟩

theorem all_any (b L : Nat) (bs : List ByteArray) (cs : List Cn) (hbl : bs.length ≤ 1000) (hcl : cs.length ≤ 1000) (w : World) (h : Xs w L b bs cs) :
    Calls Tryd.prog 41 #[.pointer (some ⟨b, 0, none⟩)] w fun e w' => ∃ B m, e = .returned (.map (some B)) ∧ EM w' B m (eC bs cs cs.length) ∧ Xs w' L b bs cs ∧ Chg (fun x => x = b) w w' := by
  obtain ⟨hLb, bv, cv, d, nm, h1, h2, h3, h4⟩ := h
  rcases h4 with ⟨rfl, rfl⟩ | ⟨rfl, B, m, rfl, hB, hE⟩
  · exact (all_fresh b L hLb bs cs hbl hcl bv cv _ w h1 h2 h3).mono (fun e w' ⟨B, m, he, hE, hB, hI, hC⟩ => ⟨B, m, he, hE, ⟨hLb, bv, cv, 1, _, hI, h2.chg hC (fun x hx e => by omega), h3.chg hC (fun x hx e => by omega), Or.inr ⟨rfl, B, m, rfl, hB, hE⟩⟩, hC⟩)
  · exact (all_done b L B bs cs bv cv w h1).mono (fun e w' ⟨he, hC⟩ => ⟨B, m, he, hE.chg hC (fun h => h), ⟨hLb, bv, cv, 1, _, h1.chg hC (fun h => h), h2.chg hC (fun _ _ h => h), h3.chg hC (fun _ _ h => h), Or.inr ⟨rfl, B, m, rfl, hB, hE.chg hC (fun h => h)⟩⟩, hC.none⟩)

/-- what is found of a name -/
def findV (bs : List ByteArray) (cs : List Cn) (s : ByteArray) (t : Bool) : Int × Int :=
  match eC bs cs cs.length s with
  | some (u, n) => if u = t then (n, 0) else (0, 10)
  | none => (0, 10)

set_option maxRecDepth 100000 in
set_option maxHeartbeats 4000000 in
theorem find_any (b L : Nat) (bs : List ByteArray) (cs : List Cn) (hbl : bs.length ≤ 1000) (hcl : cs.length ≤ 1000) (s : ByteArray) (hs : s.size ≤ maxLen) (t : Bool) (w : World) (h : Xs w L b bs cs) :
    Calls Tryd.prog 42 #[.pointer (some ⟨b, 0, none⟩), .string s, .bool t] w fun e w' => e = .returned (.tuple #[.int .i64 (findV bs cs s t).1, .int .i64 (findV bs cs s t).2]) ∧ Xs w' L b bs cs ∧ Chg (fun x => x = b) w w' := by
  have al := hide (all_any b L bs cs hbl hcl w h)
  obtain ⟨f, hf⟩ : ∃ f, eC bs cs cs.length s = f := ⟨_, rfl⟩
  have HF := hide hf
  clear h
  go_enter Tryd.func42, Tryd.ntmps42
  go_wp2_with fail
  refine al.out.mono ?_
  rintro e w2 ⟨B, m, rfl, hE, hX, hC⟩
  have lk := hE.ok hs
  rw [hf] at lk
  have HX := hide hX
  have HC := hide hC
  clear hE hX hC hf al
  cases f with
  | none =>
    dsimp only [Option.getD, Option.isSome] at lk
    have E : Hid (findV bs cs s t = (0, 10)) := hide (by unfold findV; rw [HF.out])
    have XF := hide (And.intro (HX.out.chg (Go.Proofs.YtdoohocdaacnaaaDoor.al w2 (.cells #[.bool false, .int .i64 0] 99)) (fun _ _ h => h)) (HC.out.trans (Go.Proofs.YtdoohocdaacnaaaDoor.al w2 (.cells #[.bool false, .int .i64 0] 99)).none))
    clear HX HC
    go_wp2_with fail
    go_ret2
    exact ⟨by rw [E.out]; rfl, XF.out⟩
  | some x =>
    obtain ⟨u, n⟩ := x
    dsimp only [Option.getD, Option.isSome] at lk
    have XF := hide (And.intro (HX.out.chg (Go.Proofs.YtdoohocdaacnaaaDoor.al w2 (.cells #[.bool u, .int .i64 n] 99)) (fun _ _ h => h)) (HC.out.trans (Go.Proofs.YtdoohocdaacnaaaDoor.al w2 (.cells #[.bool u, .int .i64 n] 99)).none))
    clear HX HC
    by_cases e : u = t
    · subst e
      have E : Hid (findV bs cs s u = (n, 0)) := hide (by unfold findV; rw [HF.out]; simp)
      go_wp2_with fail
      go_ret2
      exact ⟨by rw [E.out]; rfl, XF.out⟩
    · have E : Hid (findV bs cs s t = (0, 10)) := hide (by unfold findV; rw [HF.out]; simp [e])
      have e2 : (!u == t) = true := by simpa using e
      go_wp2_with fail
      go_ret2
      exact ⟨by rw [E.out]; rfl, XF.out⟩
theorem find_nil (s : ByteArray) (t : Bool) (w : World) :
    Calls Tryd.prog 42 #[.pointer none, .string s, .bool t] w fun e w' => e = .returned (.tuple #[.int .i64 0, .int .i64 13]) ∧ w = w' := by
  go_enter Tryd.func42, Tryd.ntmps42
  go_wp2_with fail
  go_ret2
  exact ⟨rfl, rfl⟩
theorem base_any (b L : Nat) (bs : List ByteArray) (cs : List Cn) (hbl : bs.length ≤ 1000) (hcl : cs.length ≤ 1000) (s : ByteArray) (hs : s.size ≤ maxLen) (w : World) (h : Xs w L b bs cs) :
    Calls Tryd.prog 20 #[.pointer (some ⟨b, 0, none⟩), .string s] w fun e w' => e = .returned (.tuple #[.int .i64 (findV bs cs s true).1, .int .i64 (findV bs cs s true).2]) ∧ Xs w' L b bs cs ∧ Chg (fun x => x = b) w w' := by
  have al := hide (find_any b L bs cs hbl hcl s hs true w h)
  clear h
  go_enter Tryd.func20, Tryd.ntmps20
  go_wp2_with fail
  refine al.out.mono ?_
  rintro e w2 ⟨rfl, hX, hC⟩
  have HX := hide hX
  have HC := hide hC
  clear hX hC
  go_wp2_with fail
  go_ret2
  exact ⟨rfl, HX.out, HC.out⟩
theorem base_nil (s : ByteArray) (w : World) : Calls Tryd.prog 20 #[.pointer none, .string s] w fun e w' => e = .returned (.tuple #[.int .i64 0, .int .i64 13]) ∧ w = w' := by
  have al := hide (find_nil s true w)
  go_enter Tryd.func20, Tryd.ntmps20
  go_wp2_with fail
  refine al.out.mono ?_
  rintro e w2 ⟨rfl, rfl⟩
  go_wp2_with fail
  go_ret2
  exact ⟨rfl, rfl⟩
theorem const_any (b L : Nat) (bs : List ByteArray) (cs : List Cn) (hbl : bs.length ≤ 1000) (hcl : cs.length ≤ 1000) (s : ByteArray) (hs : s.size ≤ maxLen) (w : World) (h : Xs w L b bs cs) :
    Calls Tryd.prog 21 #[.pointer (some ⟨b, 0, none⟩), .string s] w fun e w' => e = .returned (.tuple #[.int .i64 (findV bs cs s false).1, .int .i64 (findV bs cs s false).2]) ∧ Xs w' L b bs cs ∧ Chg (fun x => x = b) w w' := by
  have al := hide (find_any b L bs cs hbl hcl s hs false w h)
  clear h
  go_enter Tryd.func21, Tryd.ntmps21
  go_wp2_with fail
  refine al.out.mono ?_
  rintro e w2 ⟨rfl, hX, hC⟩
  have HX := hide hX
  have HC := hide hC
  clear hX hC
  go_wp2_with fail
  go_ret2
  exact ⟨rfl, HX.out, HC.out⟩
theorem const_nil (s : ByteArray) (w : World) : Calls Tryd.prog 21 #[.pointer none, .string s] w fun e w' => e = .returned (.tuple #[.int .i64 0, .int .i64 13]) ∧ w = w' := by
  have al := hide (find_nil s false w)
  go_enter Tryd.func21, Tryd.ntmps21
  go_wp2_with fail
  refine al.out.mono ?_
  rintro e w2 ⟨rfl, rfl⟩
  go_wp2_with fail
  go_ret2
  exact ⟨rfl, rfl⟩

/-- is it a name? -/
def isN (bs : List ByteArray) (cs : List Cn) (s : ByteArray) : Bool := (eC bs cs cs.length s).isSome

set_option maxRecDepth 100000 in
set_option maxHeartbeats 8000000 in
theorem has_any (b L : Nat) (bs : List ByteArray) (cs : List Cn) (hbl : bs.length ≤ 1000) (hcl : cs.length ≤ 1000) (nv : Value) (l : List ByteArray) (hl : l.length ≤ 1000) (X : Nat → Prop) (w : World) (hX : ∀ x, X x → x ≠ b) (hn : Strs w X nv l) (h : Xs w L b bs cs) :
    Calls Tryd.prog 17 #[.pointer (some ⟨b, 0, none⟩), nv] w fun e w' => e = .returned (.bool (l.all (isN bs cs))) ∧ Xs w' L b bs cs ∧ Chg (fun x => x = b) w w' := by
  obtain ⟨hls, a, cap, rfl, _⟩ := id hn
  have HN := hide hn
  have HX := hide h
  have HLS := hide hls
  have XB := hide hX
  clear hn h hls hX
  go_enter Tryd.func17, Tryd.ntmps17
  go_wp2_with fail
  go_loopw [11] (fun iv wr => ∃ k : Nat, k ≤ l.length ∧ iv = .int .i64 k ∧ Hid ((l.take k).all (isN bs cs) = true) ∧ Hid (Xs wr L b bs cs) ∧ Hid (Chg (fun x => x = b) w wr)) (fun iv _ => l.length - (intOf iv).toNat)
  case atStart => exact ⟨0, Nat.zero_le _, rfl, rfl, HX, hide (Chg.refl _ _)⟩
  case round =>
    clear HX
    obtain ⟨k, hk, rfl, hA, hXs, hC⟩ := hrel
    by_cases hlt : k < l.length
    · have sn := HN.out.chg hC.out (fun x hx => XB.out x hx)
      obtain ⟨g, off, rfl, hg, d0⟩ := sn.cell hlt
      have i1 : (0 : Int) ≤ (k : Int) := by omega
      have i2 : (k : Int) < (l.length : Int) := by omega
      have hsz := hide (HLS.out _ (List.getElem_mem hlt))
      have htk := hide (take_snoc l k hlt)
      have hdr := hide (List.drop_eq_getElem_cons hlt)
      have av := hide (all_any b L bs cs hbl hcl wr hXs.out)
      obtain ⟨f, hf⟩ : ∃ f, eC bs cs cs.length l[k] = f := ⟨_, rfl⟩
      have HF : Hid (isN bs cs l[k] = f.isSome) := hide (by unfold isN; rw [hf])
      have HFe := hide hf
      clear sn hXs hf
      generalize l[k] = s at *
      go_wp2_with fail
      refine av.out.mono ?_
      rintro e w2 ⟨B, m, rfl, hE, hX2, hC2⟩
      have lk := hE.ok hsz.out
      rw [HFe.out] at lk
      have Y := hide (hX2.chg (al w2 (.cells #[.bool (f.getD (false, 0)).1, .int .i64 (f.getD (false, 0)).2] 99)) (fun _ _ h => h))
      have CC := hide ((hC.out.trans hC2).trans (al w2 (.cells #[.bool (f.getD (false, 0)).1, .int .i64 (f.getD (false, 0)).2] 99)).none)
      clear hE hX2 hC2 hC av d0
      generalize (f.getD (false, 0)) = fz at *
      cases hfs : f.isSome
      · rw [hfs] at lk
        have E : Hid (l.all (isN bs cs) = false) := hide (by
          rw [← List.take_append_drop k l, List.all_append, hdr.out, List.all_cons, HF.out, hfs]; simp)
        clear hfs
        go_wp2_with fail
        go_ret
        exact ⟨by rw [E.out]; rfl, Y.out, CC.out⟩
      · rw [hfs] at lk
        have A2 : Hid ((l.take (k + 1)).all (isN bs cs) = true) := hide (by
          rw [htk.out, List.all_append, hA.out, List.all_cons, HF.out, hfs]; rfl)
        clear hfs
        go_wp2_with fail
        go_roundw
        case rel => exact ⟨k + 1, by omega, by go_num, A2, Y, CC⟩
        case measure => simp [intOf]; omega
    · have hkl : k = l.length := by omega
      have E : Hid (l.all (isN bs cs) = true) := hide (by have h := hA.out; rw [hkl, List.take_length] at h; exact h)
      subst hkl
      clear hA
      go_wp2_with fail
      go_ret
      exact ⟨by rw [E.out]; rfl, hXs.out, hC.out⟩
theorem has_nil (nv : Value) (l : List ByteArray) (hl : l.length ≤ 1000) (X : Nat → Prop) (w : World) (hn : Strs w X nv l) : Calls Tryd.prog 17 #[.pointer none, nv] w fun e w' => e = .returned (.bool (l.length == 0)) ∧ w = w' := by
  obtain ⟨hls, a, cap, rfl, _⟩ := id hn
  have HN := hide hn
  clear hn hls
  go_enter Tryd.func17, Tryd.ntmps17
  go_wp2_with fail
  go_loopw [11] (fun iv wr => iv = .int .i64 0 ∧ Hid (wr = w)) (fun iv _ => 0)
  case atStart => exact ⟨rfl, hide rfl⟩
  case round =>
    obtain ⟨rfl, hw⟩ := hrel
    have hw := hw.out
    subst hw
    by_cases hlt : 0 < l.length
    · obtain ⟨g, off, rfl, hg, d0⟩ := HN.out.cell hlt
      simp only [Nat.add_zero] at d0
      have i2 : (0 : Int) < (l.length : Int) := by omega
      generalize l[0] = s at *
      have E : Hid ((l.length == 0) = false) := hide (beq_eq_false_iff_ne.2 (by omega))
      go_wp2_with fail
      go_ret
      exact ⟨by rw [E.out]; rfl, rfl⟩
    · have e0 : l = [] := List.eq_nil_of_length_eq_zero (by omega)
      subst e0
      clear HN
      simp only [List.length_nil] at *
      go_wp2_with fail
      go_ret
      exact ⟨rfl, rfl⟩
end Go.Proofs.YtdoohocdaacnaaaDoor
