/- The document's few, Few; the law's small. A tree's depth: the program's, the document's. -/
import Derived.Test.YtboeeaekhijboaaPlikeItem
import Derived.Test.YtboeeaekhijboaaPslim
namespace Go.Proofs.Ytboeeaekhijboaa
open Go.RowKit
set_option linter.unusedVariables false
set_option linter.unusedSimpArgs false

/-- the row without its first i nodes -/
def Ns.drop : Ns → Nat → Ns
  | f, 0 => f
  | .nil, _ + 1 => .nil
  | .cons _ _ _ _ r, i + 1 => r.drop i
theorem Ns.drop_zero (f : Ns) : f.drop 0 = f := by cases f <;> rfl
theorem Ns.drop_nil (i : Nat) : Ns.nil.drop i = .nil := by cases i <;> rfl
theorem Ns.drop_get : ∀ (f : Ns) (i : Nat) (h : i < f.toL.length), f.drop i = .cons (f.toL[i]).1 (f.toL[i]).2.1 (f.toL[i]).2.2.1 (f.toL[i]).2.2.2 (f.drop (i + 1))
  | .nil, i, h => absurd h (Nat.not_lt_zero _)
  | .cons k s a x r, 0, h => by simp only [Ns.drop, Ns.toL, List.getElem_cons_zero]
  | .cons k s a x r, i + 1, h => by
    have := Ns.drop_get r i (by simpa [Ns.toL] using h)
    simp only [Ns.drop, Ns.toL, List.getElem_cons_succ]
    exact this
theorem Ns.drop_all : ∀ f : Ns, f.drop f.len = .nil
  | .nil => rfl
  | .cons k s a x r => by simp only [Ns.len, Ns.drop]; exact Ns.drop_all r
/-- how many nodes: counting ends above a hundred, or where it is too deep -/
def fewR : Ns → Nat → Nat → Nat
  | .nil, _, k => k
  | .cons _ _ _ x r, d, k => if k ≤ 100 then fewR r d (k + (if d - 1 = 0 then 101 else fewR x (d - 1) 1)) else k
def fewV (d : Nat) (f : Ns) : Nat := if d = 0 then 101 else fewR f d 1
theorem fewR_ge : ∀ (f : Ns) (d k : Nat), k ≤ fewR f d k
  | .nil, d, k => Nat.le_refl _
  | .cons _ _ _ x r, d, k => by
    simp only [fewR]
    split
    · exact Nat.le_trans (Nat.le_add_right _ _) (fewR_ge r d _)
    · exact Nat.le_refl _
theorem fewV_pos (d : Nat) (f : Ns) : 1 ≤ fewV d f := by
  unfold fewV
  split
  · omega
  · exact fewR_ge f d 1
theorem fewR_le : ∀ (f : Ns) (d k : Nat), fewR f d k ≤ max k (201 + 101 * (d - 1))
  | .nil, d, k => Nat.le_max_left _ _
  | .cons _ _ _ x r, d, k => by
    simp only [fewR]
    split
    · have h1 := fewR_le r d (k + (if d - 1 = 0 then 101 else fewR x (d - 1) 1))
      have h2 := fewR_le x (d - 1) 1
      split at h1 <;> split <;> omega
    · exact Nat.le_max_left _ _
theorem fewV_le (d : Nat) (f : Ns) (h : d ≤ 70) : fewV d f ≤ 10000 := by
  unfold fewV
  split
  · omega
  · have := fewR_le f d 1; omega
theorem fewR_size : ∀ (f : Ns) (d k : Nat), fewR f d k ≤ 100 → k + f.size ≤ fewR f d k
  | .nil, d, k, h => by simp [fewR, Ns.size]
  | .cons _ _ _ x r, d, k, h => by
    simp only [fewR] at h ⊢
    split at h
    · rename_i hk
      rw [if_pos hk]
      have h1 := fewR_size r d _ h
      have h0 := fewR_ge r d (k + (if d - 1 = 0 then 101 else fewR x (d - 1) 1))
      by_cases hd : d - 1 = 0
      · rw [if_pos hd] at h0 h
        omega
      · rw [if_neg hd] at h0 h h1 ⊢
        have h2 := fewR_size x (d - 1) 1 (by omega)
        simp only [Ns.size]
        omega
    · omega
theorem fewV_size {d : Nat} {f : Ns} (h : fewV d f ≤ 100) : f.size ≤ 100 := by
  unfold fewV at h
  split at h
  · omega
  · have := fewR_size f d 1 h; omega
theorem few_ok {d : Nat} {n : Nd} (h : fewV d n.kids ≤ 100) : Ok1 n ∧ n.kids.size ≤ 100 :=
  ⟨⟨by have := fewV_size h; have := Ns.len_size n.kids; omega, slim_size (by have := fewV_size h; omega)⟩, fewV_size h⟩

def FewC (d : Nat) : Prop := ∀ (f : Ns) (k : Int) (s : ByteArray) (a : Int) (v : Value) (X : Nat → Prop) (w : World), (∀ x, X x → x < w.heap.size) → Ts w X v f →
  Calls Try.prog 44 #[.agg #[.int .i64 k, .string s, .int .i64 a, v], .int .i64 100, .int .i64 (d : Int)] w fun e w' => e = .returned (.int .i64 ((fewV d f : Nat) : Int)) ∧ Chg (fun _ => False) w w'
/-- what the loop keeps -/
def FwInv (w1 wr : World) (f : Ns) (d i k R : Nat) : Prop := Hid (Chg (fun _ => False) w1 wr) ∧ Hid (fewR (f.drop i) d k = R)

set_option maxRecDepth 100000 in
set_option maxHeartbeats 32000000 in
theorem few_step (d : Nat) (hd : d ≤ 70) (ih : ∀ d', d = d' + 1 → FewC d') : FewC d := by
  intro f k0 s a v X w hB hv
  have HB := hide hB
  obtain ⟨RR, hRR⟩ : ∃ RR, fewV d f = RR := ⟨_, rfl⟩
  rw [hRR]
  have HR := hide hRR
  obtain ⟨av, cap, rfl, hx⟩ := id hv
  have HV := hide hv
  have htl := Ns.toL_len f
  have G1 := al w (.cells #[.int .i64 k0, .string s, .int .i64 a, .slice av f.len cap] 55)
  have BP := hide (blk_new w (.cells #[.int .i64 k0, .string s, .int .i64 a, .slice av f.len cap] 55))
  have GG := hide G1
  clear hx hv hB G1 hRR
  by_cases h0 : d = 0
  · subst h0
    have HX : Hid (RR = 101) := hide HR.out.symm
    clear HR ih HV
    go_enter Try.func44, Try.ntmps44
    go_wp2_with fail
    go_ret
    exact ⟨by rw [HX.out]; rfl, GG.out⟩
  · obtain ⟨d', rfl⟩ : ∃ d', d = d' + 1 := ⟨d - 1, by omega⟩
    have IH := hide (ih d' rfl)
    have HR : Hid (fewR f (d' + 1) 1 = RR) := hide HR.out
    have HD : Hid (d' + 1 ≤ 70) := hide hd
    have ed : (((d' + 1 : Nat) : Int)) = (d' : Int) + 1 := by omega
    rw [ed]
    have d0 : decide ((d' : Int) + 1 ≤ 0) = false := by first | (simp; omega) | simp
    have d1 : (d' : Int) + 1 - 1 = (d' : Int) := by omega
    have dr1 : (-9223372036854775808 : Int) ≤ (d' : Int) := by omega
    have dr2 : (d' : Int) ≤ 70 := by omega
    clear ih h0 hd ed
    go_enter Try.func44, Try.ntmps44
    go_upto_block 0 with fail
    generalize (w.alloc (.cells #[.int .i64 k0, .string s, .int .i64 a, .slice av f.len cap] 55)) = w1 at *
    obtain ⟨P, hP⟩ : ∃ P, w.heap.size = P := ⟨_, rfl⟩
    rw [hP] at BP ⊢
    clear hP d0
    go_wp2_with fail
    go_loopw [7, 8] (fun kv iv wr => ∃ (k i : Nat), kv = .int .i64 k ∧ iv = .int .i64 i ∧ i ≤ f.len ∧ i + 1 ≤ k ∧ k ≤ 20000 ∧ Hid (FwInv w1 wr f (d' + 1) i k RR)) (fun _ iv _ => f.len - (intOf iv).toNat)
    case atStart => exact ⟨1, 0, rfl, rfl, Nat.zero_le _, Nat.le_refl _, by omega, hide ⟨hide (Chg.refl _ _), hide (by rw [Ns.drop_zero]; exact HR.out)⟩⟩
    case round =>
      obtain ⟨k, i, rfl, rfl, hi, hik, hk2, hIN⟩ := hrel
      obtain ⟨hC, hM⟩ := hIN.out
      clear hIN
      have p3 : wr.cell? ⟨P, 3, none⟩ = some (.slice av f.len cap) := hC.out.cell (fun h => h) (blk_cell BP.out 3)
      by_cases hlt : i < f.len
      · have i1 : (0 : Int) ≤ (i : Int) := by omega
        have i2 : (i : Int) < (f.len : Int) := by omega
        by_cases hk : k ≤ 100
        · have k1 : decide (k ≤ 100) = true := by simp [hk]
          have k2 : decide ((k : Int) ≤ 100) = true := by first | (simp; omega) | simp
          have hit : i < f.toL.length := by omega
          obtain ⟨la, lc, hlv, hl⟩ := HV.out
          rcases hl with h0 | ⟨b, off, rfl, hg, hl⟩
          · subst h0; exact absurd hlt (Nat.not_lt_zero _)
          injection hlv with e1 e2 e3
          subst e1 e3
          obtain ⟨c0, c1, c2, vi, c3, ti⟩ := lies_get hl i hit
          obtain ⟨ka, kc, rfl, _⟩ := id ti
          have WC := GG.out.trans hC.out
          have d0 := WC.cell (fun h => h) c0
          have d1' := WC.cell (fun h => h) c1
          have d2 := WC.cell (fun h => h) c2
          have d3 := WC.cell (fun h => h) c3
          have BW := fun x (hx : X x) => Nat.lt_of_lt_of_le (HB.out x hx) WC.size
          have KI := hide (IH.out (f.toL[i]).kids (f.toL[i]).kind (f.toL[i]).word (f.toL[i]).at _ X wr BW (ti.chg WC (fun _ _ h => h)))
          have ST : Hid (fewR (f.drop (i + 1)) (d' + 1) (k + fewV d' (f.toL[i]).kids) = RR) := hide (by
            have h := hM.out
            rw [Ns.drop_get f i hit] at h
            simp only [fewR] at h
            rw [if_pos hk] at h
            exact h)
          have hm1 := fewV_pos d' (f.toL[i]).kids
          have hm2 := fewV_le d' (f.toL[i]).kids (by have := HD.out; omega)
          have HK := hide hk
          clear hl c0 c1 c2 c3 ti WC BW hM hk
          dsimp only [Nd.kind, Nd.word, Nd.at, Nd.kids] at d0 d1' d2 d3 KI ST hm1 hm2
          generalize fewV d' (f.toL[i]).2.2.2 = m at *
          generalize (f.toL[i]).1 = n0 at *
          generalize (f.toL[i]).2.1 = n1 at *
          generalize (f.toL[i]).2.2.1 = n2 at *
          generalize (f.toL[i]).2.2.2 = n3 at *
          go_wp2_with fail
          refine KI.out.mono ?_
          rintro e w6 ⟨rfl, g6⟩
          have C6 := hide (hC.out.trans g6)
          clear g6 KI
          have F9 : Hid (FwInv w1 w6 f (d' + 1) (i + 1) (k + m) RR) := hide ⟨C6, ST⟩
          go_wp2_with fail
          go_roundw
          case rel => exact ⟨k + m, i + 1, by go_num, by go_num, by omega, by omega, by have := HK.out; omega, F9⟩
          case measure => simp [intOf]; omega
        · have k1 : decide (k ≤ 100) = false := by first | (simp; omega) | simp
          have k2 : decide ((k : Int) ≤ 100) = false := by first | (simp; omega) | simp
          have HX : Hid (RR = k) := hide (by
            have h := hM.out
            rw [Ns.drop_get f i (by omega)] at h
            simp only [fewR] at h
            rw [if_neg hk] at h
            exact h.symm)
          have GX := hide (GG.out.trans hC.out)
          clear hM HV IH hk HR
          go_wp2_with fail
          go_ret
          exact ⟨by rw [HX.out]; rfl, GX.out⟩
      · have hif : i = f.len := by omega
        have HX : Hid (RR = k) := hide (by
          have h := hM.out
          rw [hif, Ns.drop_all] at h
          exact h.symm)
        have GX := hide (GG.out.trans hC.out)
        clear hM HV IH HR
        have i2 : decide (i < f.len) = false := by simp [hlt]
        subst hif
        go_wp2_with fail
        go_ret
        exact ⟨by rw [HX.out]; rfl, GX.out⟩

theorem few_any : ∀ d, d ≤ 70 → FewC d
  | 0, h => few_step 0 h (fun d' e => by cases e)
  | d + 1, h => few_step (d + 1) h (fun d' e => by injection e with e; subst e; exact few_any d (by omega))

set_option maxRecDepth 100000 in
theorem fewF_any (f : Ns) (k : Int) (s : ByteArray) (a : Int) (v : Value) (X : Nat → Prop) (w : World) (hB : ∀ x, X x → x < w.heap.size) (hv : Ts w X v f) :
    Calls Try.prog 19 #[.agg #[.int .i64 k, .string s, .int .i64 a, v], .int .i64 100, .int .i64 70] w fun e w' => e = .returned (.bool (decide (fewV 70 f ≤ 100))) ∧ Chg (fun _ => False) w w' := by
  obtain ⟨av, cap, rfl, hx⟩ := id hv
  have GG := hide (al w (.cells #[.int .i64 k, .string s, .int .i64 a, .slice av f.len cap] 55))
  have BP := hide (blk_new w (.cells #[.int .i64 k, .string s, .int .i64 a, .slice av f.len cap] 55))
  have FA := hide (few_any 70 (by omega) f k s a _ X (w.alloc (.cells #[.int .i64 k, .string s, .int .i64 a, .slice av f.len cap] 55)) (fun x h => Nat.lt_of_lt_of_le (hB x h) GG.out.size) (hv.chg GG.out (fun _ _ h => h)))
  have e70 : ((70 : Nat) : Int) = 70 := rfl
  rw [e70] at FA
  clear e70 hx hv hB
  generalize fewV 70 f = m at *
  go_enter Try.func19, Try.ntmps19
  go_wp2_with fail
  generalize (w.alloc (.cells #[.int .i64 k, .string s, .int .i64 a, .slice av f.len cap] 55)) = w1 at *
  refine FA.out.mono ?_
  rintro e w6 ⟨rfl, g6⟩
  have C6 := hide (GG.out.trans g6)
  clear g6 FA
  go_wp2_with fail
  go_ret
  exact ⟨by simp; omega, C6.out⟩

/-- small enough to be gone through: so many nodes in a row -/
def smallR : Ns → Bool
  | .nil => true
  | .cons _ _ _ x r => decide (fewV 70 x ≤ 100) && smallR r
def smallI (x : It) : Bool := decide (x.2.1.length ≤ 10) && (decide (x.2.2.1.len ≤ 3) && smallR x.2.2.1)
theorem smallR_slim : ∀ f : Ns, smallR f = true → Slim f
  | .nil, _ => trivial
  | .cons k s a x r, h => by
    simp only [smallR, Bool.and_eq_true, decide_eq_true_eq] at h
    have := few_ok (n := (k, s, a, x)) h.1
    exact ⟨this.1.1, this.1.2, smallR_slim r h.2⟩
theorem smallI_ok {x : It} (h : smallI x = true) : Ok2 x := by
  simp only [smallI, Bool.and_eq_true, decide_eq_true_eq] at h
  exact ⟨by omega, by omega, smallR_slim _ h.2.2⟩
theorem smallR_size : ∀ f : Ns, smallR f = true → f.size ≤ f.len * 101
  | .nil, _ => Nat.le_refl _
  | .cons k s a x r, h => by
    simp only [smallR, Bool.and_eq_true, decide_eq_true_eq] at h
    have := few_ok (n := (k, s, a, x)) h.1
    have h2 := this.2
    dsimp only [Nd.kids] at h2
    have := smallR_size r h.2
    simp only [Ns.size, Ns.len]
    omega
def SmInv (w1 wr : World) (f : Ns) (i : Nat) (R : Bool) : Prop := Hid (Chg (fun _ => False) w1 wr) ∧ Hid (smallR (f.drop i) = R)

set_option maxRecDepth 100000 in
set_option maxHeartbeats 32000000 in
theorem small_any (kd : Int) (l : List ByteArray) (f : Ns) (nm at0 : Int) (u v : Value) (X : Nat → Prop) (w : World) (hB : ∀ x, X x → x < w.heap.size) (hu : Sw w X u l) (hv : Ts w X v f) :
    Calls Try.prog 20 #[.agg #[.int .i64 kd, u, v, .int .i64 nm, .int .i64 at0]] w fun e w' => e = .returned (.bool (smallI (kd, l, f, nm, at0))) ∧ Chg (fun _ => False) w w' := by
  have HB := hide hB
  obtain ⟨RR, hRR⟩ : ∃ RR, smallI (kd, l, f, nm, at0) = RR := ⟨_, rfl⟩
  rw [hRR]
  have HR : Hid ((decide (l.length ≤ 10) && (decide (f.len ≤ 3) && smallR f)) = RR) := hide hRR
  obtain ⟨au, cu, rfl, _⟩ := id hu
  obtain ⟨av, cap, rfl, hx⟩ := id hv
  have HV := hide hv
  have htl := Ns.toL_len f
  have G1 := al w (.cells #[.int .i64 kd, .slice au l.length cu, .slice av f.len cap, .int .i64 nm, .int .i64 at0] 42)
  have BP := hide (blk_new w (.cells #[.int .i64 kd, .slice au l.length cu, .slice av f.len cap, .int .i64 nm, .int .i64 at0] 42))
  have GG := hide G1
  clear hx hv hB G1 hRR hu
  by_cases hl : l.length ≤ 10
  · have l1 : decide ((10 : Int) < (l.length : Int)) = false := by first | (simp; omega) | simp
    have l2 : decide (10 < l.length) = false := by first | (simp; omega) | simp
    have EL := hide hl
    clear hl
    by_cases hf : f.len ≤ 3
    · have f1 : decide ((3 : Int) < (f.len : Int)) = false := by first | (simp; omega) | simp
      have f2 : decide (3 < f.len) = false := by first | (simp; omega) | simp
      have HR : Hid (smallR f = RR) := hide (by have h := HR.out; simpa [EL.out, hf] using h)
      go_enter Try.func20, Try.ntmps20
      go_upto_block 0 with fail
      clear l1 l2 f1 f2
      generalize (w.alloc (.cells #[.int .i64 kd, .slice au l.length cu, .slice av f.len cap, .int .i64 nm, .int .i64 at0] 42)) = w1 at *
      obtain ⟨P, hP⟩ : ∃ P, w.heap.size = P := ⟨_, rfl⟩
      rw [hP] at BP ⊢
      clear hP
      go_wp2_with fail
      go_loopw [3] (fun iv wr => ∃ (i : Nat), iv = .int .i64 i ∧ i ≤ f.len ∧ Hid (SmInv w1 wr f i RR)) (fun iv _ => f.len - (intOf iv).toNat)
      case atStart => exact ⟨0, rfl, Nat.zero_le _, hide ⟨hide (Chg.refl _ _), hide (by rw [Ns.drop_zero]; exact HR.out)⟩⟩
      case round =>
        obtain ⟨i, rfl, hi, hIN⟩ := hrel
        obtain ⟨hC, hM⟩ := hIN.out
        clear hIN
        have p2 : wr.cell? ⟨P, 2, none⟩ = some (.slice av f.len cap) := hC.out.cell (fun h => h) (blk_cell BP.out 2)
        by_cases hlt : i < f.len
        · have i1 : (0 : Int) ≤ (i : Int) := by omega
          have i2 : (i : Int) < (f.len : Int) := by omega
          have hit : i < f.toL.length := by omega
          obtain ⟨la, lc, hlv, hl⟩ := HV.out
          rcases hl with h0 | ⟨b, off, rfl, hg, hl⟩
          · subst h0; exact absurd hlt (Nat.not_lt_zero _)
          injection hlv with e1 e2 e3
          subst e1 e3
          obtain ⟨c0, c1, c2, vi, c3, ti⟩ := lies_get hl i hit
          obtain ⟨ka, kc, rfl, _⟩ := id ti
          have WC := GG.out.trans hC.out
          have d0 := WC.cell (fun h => h) c0
          have d1' := WC.cell (fun h => h) c1
          have d2 := WC.cell (fun h => h) c2
          have d3 := WC.cell (fun h => h) c3
          have BW := fun x (hx : X x) => Nat.lt_of_lt_of_le (HB.out x hx) WC.size
          have KI := hide (fewF_any (f.toL[i]).kids (f.toL[i]).kind (f.toL[i]).word (f.toL[i]).at _ X wr BW (ti.chg WC (fun _ _ h => h)))
          have ST : Hid ((decide (fewV 70 (f.toL[i]).kids ≤ 100) && smallR (f.drop (i + 1))) = RR) := hide (by
            have h := hM.out
            rw [Ns.drop_get f i hit] at h
            exact h)
          clear hl c0 c1 c2 c3 ti WC BW hM
          dsimp only [Nd.kind, Nd.word, Nd.at, Nd.kids] at d0 d1' d2 d3 KI ST
          generalize decide (fewV 70 (f.toL[i]).2.2.2 ≤ 100) = m at *
          generalize (f.toL[i]).1 = n0 at *
          generalize (f.toL[i]).2.1 = n1 at *
          generalize (f.toL[i]).2.2.1 = n2 at *
          generalize (f.toL[i]).2.2.2 = n3 at *
          go_wp2_with fail
          refine KI.out.mono ?_
          rintro e w6 ⟨rfl, g6⟩
          have C6 := hide (hC.out.trans g6)
          clear g6 KI
          cases m
          · have HX : Hid (false = RR) := hide (by have h := ST.out; rw [Bool.false_and] at h; exact h)
            have GX := hide (GG.out.trans C6.out)
            clear ST
            go_wp2_with fail
            go_ret
            exact ⟨by rw [← HX.out]; rfl, GX.out⟩
          · have F9 : Hid (SmInv w1 w6 f (i + 1) RR) := hide ⟨C6, hide (by have h := ST.out; rw [Bool.true_and] at h; exact h)⟩
            clear ST
            go_wp2_with fail
            go_roundw
            case rel => exact ⟨i + 1, by go_num, by omega, F9⟩
            case measure => simp [intOf]; omega
        · have hif : i = f.len := by omega
          have HX : Hid (true = RR) := hide (by
            have h := hM.out
            rw [hif, Ns.drop_all] at h
            exact h)
          have GX := hide (GG.out.trans hC.out)
          clear hM HV HR
          have i2 : decide (i < f.len) = false := by simp [hlt]
          subst hif
          go_wp2_with fail
          go_ret
          exact ⟨by rw [← HX.out]; rfl, GX.out⟩
    · have f1 : decide ((3 : Int) < (f.len : Int)) = true := by first | (simp; omega) | simp
      have f2 : decide (3 < f.len) = true := by first | (simp; omega) | simp
      have HX : Hid (false = RR) := hide (by have h := HR.out; simpa [hf] using h)
      clear hf HR HV
      go_enter Try.func20, Try.ntmps20
      go_wp2_with fail
      go_ret
      exact ⟨by rw [← HX.out]; rfl, GG.out⟩
  · have l1 : decide ((10 : Int) < (l.length : Int)) = true := by first | (simp; omega) | simp
    have l2 : decide (10 < l.length) = true := by first | (simp; omega) | simp
    have HX : Hid (false = RR) := hide (by have h := HR.out; simpa [hl] using h)
    clear hl HR HV
    go_enter Try.func20, Try.ntmps20
    go_wp2_with fail
    go_ret
    exact ⟨by rw [← HX.out]; rfl, GG.out⟩
end Go.Proofs.Ytboeeaekhijboaa
namespace Go.Proofs.Ytboeeaekhijboaa
open Go.RowKit
set_option linter.unusedVariables false
set_option linter.unusedSimpArgs false

/-- the depth of a row, or that of what stood ahead of it -/
def depA : Ns → Nat → Nat
  | .nil, d => d
  | .cons _ _ _ x r, d => depA r (max d (depA x 0 + 1))
theorem depA_ge : ∀ (f : Ns) (d : Nat), d ≤ depA f d
  | .nil, d => Nat.le_refl _
  | .cons _ _ _ x r, d => by
    simp only [depA]
    exact Nat.le_trans (Nat.le_max_left _ _) (depA_ge r _)
theorem depA_le : ∀ (f : Ns) (d : Nat), depA f d ≤ max d f.size
  | .nil, d => Nat.le_max_left _ _
  | .cons _ _ _ x r, d => by
    simp only [depA, Ns.size]
    have h1 := depA_le r (max d (depA x 0 + 1))
    have h2 := depA_le x 0
    omega
def DpInv (w1 wr : World) (f : Ns) (i d R : Nat) : Prop := Hid (Chg (fun _ => False) w1 wr) ∧ Hid (depA (f.drop i) d = R)

set_option maxRecDepth 100000 in
set_option maxHeartbeats 32000000 in
theorem rdepth_step (n : Nat) (ih : ∀ (f : Ns), f.size < n → f.size ≤ 1000000 → ∀ (k : Int) (s : ByteArray) (a : Int) (v : Value) (X : Nat → Prop) (w : World), (∀ x, X x → x < w.heap.size) → Ts w X v f →
    Calls Try.prog 26 #[.agg #[.int .i64 k, .string s, .int .i64 a, v]] w fun e w' => e = .returned (.int .i64 ((depA f 0 + 1 : Nat) : Int)) ∧ Chg (fun _ => False) w w')
    (f : Ns) (hf : f.size ≤ n) (hsz : f.size ≤ 1000000) (k0 : Int) (s : ByteArray) (a : Int) (v : Value) (X : Nat → Prop) (w : World) (hB : ∀ x, X x → x < w.heap.size) (hv : Ts w X v f) :
    Calls Try.prog 26 #[.agg #[.int .i64 k0, .string s, .int .i64 a, v]] w fun e w' => e = .returned (.int .i64 ((depA f 0 + 1 : Nat) : Int)) ∧ Chg (fun _ => False) w w' := by
  have IH := hide ih
  have HF := hide hf
  have HB := hide hB
  have HSZ := hide hsz
  obtain ⟨RR, hRR⟩ : ∃ RR, depA f 0 = RR := ⟨_, rfl⟩
  rw [hRR]
  have HR := hide hRR
  have hrb : RR ≤ 1000000 := by have := depA_le f 0; omega
  obtain ⟨av, cap, rfl, hx⟩ := id hv
  have HV := hide hv
  have htl := Ns.toL_len f
  have G1 := al w (.cells #[.int .i64 k0, .string s, .int .i64 a, .slice av f.len cap] 55)
  have BP := hide (blk_new w (.cells #[.int .i64 k0, .string s, .int .i64 a, .slice av f.len cap] 55))
  have GG := hide G1
  clear hx hv hB G1 hRR hf ih hsz
  go_enter Try.func26, Try.ntmps26
  go_upto_block 0 with fail
  generalize (w.alloc (.cells #[.int .i64 k0, .string s, .int .i64 a, .slice av f.len cap] 55)) = w1 at *
  obtain ⟨P, hP⟩ : ∃ P, w.heap.size = P := ⟨_, rfl⟩
  rw [hP] at BP ⊢
  clear hP
  have p3 : w1.cell? ⟨P, 3, none⟩ = some (.slice av f.len cap) := blk_cell BP.out 3
  go_wp2_with fail
  clear p3
  go_loopw [3, 4] (fun dv iv wr => ∃ (d i : Nat), dv = .int .i64 d ∧ iv = .int .i64 i ∧ i ≤ f.len ∧ d ≤ RR ∧ Hid (DpInv w1 wr f i d RR)) (fun _ iv _ => f.len - (intOf iv).toNat)
  case atStart => exact ⟨0, 0, rfl, rfl, Nat.zero_le _, Nat.zero_le _, hide ⟨hide (Chg.refl _ _), hide (by rw [Ns.drop_zero]; exact HR.out)⟩⟩
  case round =>
    obtain ⟨d, i, rfl, rfl, hi, hd, hIN⟩ := hrel
    obtain ⟨hC, hM⟩ := hIN.out
    clear hIN
    have p3 : wr.cell? ⟨P, 3, none⟩ = some (.slice av f.len cap) := hC.out.cell (fun h => h) (blk_cell BP.out 3)
    by_cases hlt : i < f.len
    · have i1 : (0 : Int) ≤ (i : Int) := by omega
      have i2 : (i : Int) < (f.len : Int) := by omega
      have ib : f.len ≤ 1000000 := by have := Ns.len_size f; have := HSZ.out; omega
      have hit : i < f.toL.length := by omega
      obtain ⟨la, lc, hlv, hl⟩ := HV.out
      rcases hl with h0 | ⟨b, off, rfl, hg, hl⟩
      · subst h0; exact absurd hlt (Nat.not_lt_zero _)
      injection hlv with e1 e2 e3
      subst e1 e3
      obtain ⟨c0, c1, c2, vi, c3, ti⟩ := lies_get hl i hit
      obtain ⟨ka, kc, rfl, _⟩ := id ti
      have hks := Ns.kid_size f i hit
      have hm2 := depA_le (f.toL[i]).kids 0
      have WC := GG.out.trans hC.out
      have d0 := WC.cell (fun h => h) c0
      have d1 := WC.cell (fun h => h) c1
      have d2 := WC.cell (fun h => h) c2
      have d3 := WC.cell (fun h => h) c3
      have BW := fun x (hx : X x) => Nat.lt_of_lt_of_le (HB.out x hx) WC.size
      have TI := hide (ti.chg WC (fun _ _ h => h))
      have SB : (f.toL[i]).kids.size ≤ 1000000 := by have := HSZ.out; omega
      have KI := hide (fun w' (g : Chg (fun _ => False) wr w') => IH.out (f.toL[i]).kids (by have := HF.out; omega) SB (f.toL[i]).kind (f.toL[i]).word (f.toL[i]).at _ X w' (fun x hx => Nat.lt_of_lt_of_le (BW x hx) g.size) (TI.out.chg g (fun _ _ h => h)))
      have ST : Hid (depA (f.drop (i + 1)) (max d (depA (f.toL[i]).kids 0 + 1)) = RR) := hide (by
        have h := hM.out
        rw [Ns.drop_get f i hit] at h
        exact h)
      have hm1 : max d (depA (f.toL[i]).kids 0 + 1) ≤ RR := by rw [← ST.out]; exact depA_ge _ _
      have HM1 := hide hm1
      clear hl c0 c1 c2 c3 ti WC BW hM hks TI SB hm1
      dsimp only [Nd.kind, Nd.word, Nd.at, Nd.kids] at d0 d1 d2 d3 KI ST hm2 HM1
      have hm : depA (f.toL[i]).2.2.2 0 ≤ 1000000 := by have := HM1.out; omega
      clear hm2
      generalize depA (f.toL[i]).2.2.2 0 = m at *
      generalize (f.toL[i]).1 = n0 at *
      generalize (f.toL[i]).2.1 = n1 at *
      generalize (f.toL[i]).2.2.1 = n2 at *
      generalize (f.toL[i]).2.2.2 = n3 at *
      go_wp2_with fail
      refine (KI.out wr (Chg.refl _ _)).mono ?_
      rintro e w6 ⟨rfl, g6⟩
      have C6 := hide (hC.out.trans g6)
      clear g6 KI
      by_cases hc : d < m + 1
      · have q1 : decide ((d : Int) < (m : Int) + 1) = true := by first | (simp; omega) | simp
        have F9 : Hid (DpInv w1 w6 f (i + 1) (m + 1) RR) := hide ⟨C6, hide (by have h := ST.out; rw [Nat.max_eq_right (by omega)] at h; exact h)⟩
        go_wp2_with fail
        go_roundw
        case rel => exact ⟨m + 1, i + 1, by go_num, by go_num, by omega, by have := HM1.out; omega, F9⟩
        case measure => simp [intOf]; omega
      · have q1 : decide ((d : Int) < (m : Int) + 1) = false := by first | (simp; omega) | simp
        have F9 : Hid (DpInv w1 w6 f (i + 1) d RR) := hide ⟨C6, hide (by have h := ST.out; rw [Nat.max_eq_left (by omega)] at h; exact h)⟩
        go_wp2_with fail
        go_roundw
        case rel => exact ⟨d, i + 1, by go_num, by go_num, by omega, hd, F9⟩
        case measure => simp [intOf]; omega
    · have hif : i = f.len := by omega
      have HX : Hid (RR = d) := hide (by
        have h := hM.out
        rw [hif, Ns.drop_all] at h
        exact h.symm)
      have GX := hide (GG.out.trans hC.out)
      clear hM HV IH HR
      have i2 : decide (i < f.len) = false := by simp [hlt]
      subst hif
      go_wp2_with fail
      go_ret
      exact ⟨by rw [HX.out]; rfl, GX.out⟩

theorem rdepth_all (n : Nat) : ∀ (f : Ns), f.size ≤ n → f.size ≤ 1000000 → ∀ (k : Int) (s : ByteArray) (a : Int) (v : Value) (X : Nat → Prop) (w : World), (∀ x, X x → x < w.heap.size) → Ts w X v f →
    Calls Try.prog 26 #[.agg #[.int .i64 k, .string s, .int .i64 a, v]] w fun e w' => e = .returned (.int .i64 ((depA f 0 + 1 : Nat) : Int)) ∧ Chg (fun _ => False) w w' := by
  induction n with
  | zero => exact fun f hf => rdepth_step 0 (fun g hg => absurd hg (Nat.not_lt_zero _)) f hf
  | succ n ih => exact fun f hf => rdepth_step (n + 1) (fun g hg => ih g (by omega)) f hf
theorem rdepth_any (f : Ns) (hf : f.size ≤ 1000000) (k : Int) (s : ByteArray) (a : Int) (v : Value) (X : Nat → Prop) (w : World) (hB : ∀ x, X x → x < w.heap.size) (hv : Ts w X v f) :
    Calls Try.prog 26 #[.agg #[.int .i64 k, .string s, .int .i64 a, v]] w fun e w' => e = .returned (.int .i64 ((depA f 0 + 1 : Nat) : Int)) ∧ Chg (fun _ => False) w w' :=
  rdepth_all f.size f (Nat.le_refl _) hf k s a v X w hB hv

set_option maxRecDepth 100000 in
set_option maxHeartbeats 32000000 in
theorem pdepth_step (n : Nat) (ih : ∀ (f : Ns), f.size < n → f.size ≤ 1000000 → ∀ (k : Int) (s : ByteArray) (a : Int) (v : Value) (X : Nat → Prop) (w : World), (∀ x, X x → x < w.heap.size) → Ts w X v f →
    Calls Try.prog 25 #[.agg #[.int .i64 k, .string s, .int .i64 a, v]] w fun e w' => e = .returned (.int .i64 ((depA f 0 + 1 : Nat) : Int)) ∧ Chg (fun _ => False) w w')
    (f : Ns) (hf : f.size ≤ n) (hsz : f.size ≤ 1000000) (k0 : Int) (s : ByteArray) (a : Int) (v : Value) (X : Nat → Prop) (w : World) (hB : ∀ x, X x → x < w.heap.size) (hv : Ts w X v f) :
    Calls Try.prog 25 #[.agg #[.int .i64 k0, .string s, .int .i64 a, v]] w fun e w' => e = .returned (.int .i64 ((depA f 0 + 1 : Nat) : Int)) ∧ Chg (fun _ => False) w w' := by
  have IH := hide ih
  have HF := hide hf
  have HB := hide hB
  have HSZ := hide hsz
  obtain ⟨RR, hRR⟩ : ∃ RR, depA f 0 = RR := ⟨_, rfl⟩
  rw [hRR]
  have HR := hide hRR
  have hrb : RR ≤ 1000000 := by have := depA_le f 0; omega
  obtain ⟨av, cap, rfl, hx⟩ := id hv
  have HV := hide hv
  have htl := Ns.toL_len f
  have G1 := al w (.cells #[.int .i64 k0, .string s, .int .i64 a, .slice av f.len cap] 51)
  have BP := hide (blk_new w (.cells #[.int .i64 k0, .string s, .int .i64 a, .slice av f.len cap] 51))
  have GG := hide G1
  clear hx hv hB G1 hRR hf ih hsz
  go_enter Try.func25, Try.ntmps25
  go_upto_block 0 with fail
  generalize (w.alloc (.cells #[.int .i64 k0, .string s, .int .i64 a, .slice av f.len cap] 51)) = w1 at *
  obtain ⟨P, hP⟩ : ∃ P, w.heap.size = P := ⟨_, rfl⟩
  rw [hP] at BP ⊢
  clear hP
  have p3 : w1.cell? ⟨P, 3, none⟩ = some (.slice av f.len cap) := blk_cell BP.out 3
  go_wp2_with fail
  clear p3
  go_loopw [3, 9] (fun dv iv wr => ∃ (d i : Nat), dv = .int .i64 d ∧ iv = .int .i64 i ∧ i ≤ f.len ∧ d ≤ RR ∧ Hid (DpInv w1 wr f i d RR)) (fun _ iv _ => f.len - (intOf iv).toNat)
  case atStart => exact ⟨0, 0, rfl, rfl, Nat.zero_le _, Nat.zero_le _, hide ⟨hide (Chg.refl _ _), hide (by rw [Ns.drop_zero]; exact HR.out)⟩⟩
  case round =>
    obtain ⟨d, i, rfl, rfl, hi, hd, hIN⟩ := hrel
    obtain ⟨hC, hM⟩ := hIN.out
    clear hIN
    have p3 : wr.cell? ⟨P, 3, none⟩ = some (.slice av f.len cap) := hC.out.cell (fun h => h) (blk_cell BP.out 3)
    by_cases hlt : i < f.len
    · have i1 : (0 : Int) ≤ (i : Int) := by omega
      have i2 : (i : Int) < (f.len : Int) := by omega
      have ib : f.len ≤ 1000000 := by have := Ns.len_size f; have := HSZ.out; omega
      have hit : i < f.toL.length := by omega
      obtain ⟨la, lc, hlv, hl⟩ := HV.out
      rcases hl with h0 | ⟨b, off, rfl, hg, hl⟩
      · subst h0; exact absurd hlt (Nat.not_lt_zero _)
      injection hlv with e1 e2 e3
      subst e1 e3
      obtain ⟨c0, c1, c2, vi, c3, ti⟩ := lies_get hl i hit
      obtain ⟨ka, kc, rfl, _⟩ := id ti
      have hks := Ns.kid_size f i hit
      have hm2 := depA_le (f.toL[i]).kids 0
      have WC := GG.out.trans hC.out
      have d0 := WC.cell (fun h => h) c0
      have d1 := WC.cell (fun h => h) c1
      have d2 := WC.cell (fun h => h) c2
      have d3 := WC.cell (fun h => h) c3
      have BW := fun x (hx : X x) => Nat.lt_of_lt_of_le (HB.out x hx) WC.size
      have TI := hide (ti.chg WC (fun _ _ h => h))
      have SB : (f.toL[i]).kids.size ≤ 1000000 := by have := HSZ.out; omega
      have KI := hide (fun w' (g : Chg (fun _ => False) wr w') => IH.out (f.toL[i]).kids (by have := HF.out; omega) SB (f.toL[i]).kind (f.toL[i]).word (f.toL[i]).at _ X w' (fun x hx => Nat.lt_of_lt_of_le (BW x hx) g.size) (TI.out.chg g (fun _ _ h => h)))
      have ST : Hid (depA (f.drop (i + 1)) (max d (depA (f.toL[i]).kids 0 + 1)) = RR) := hide (by
        have h := hM.out
        rw [Ns.drop_get f i hit] at h
        exact h)
      have hm1 : max d (depA (f.toL[i]).kids 0 + 1) ≤ RR := by rw [← ST.out]; exact depA_ge _ _
      have HM1 := hide hm1
      clear hl c0 c1 c2 c3 ti WC BW hM hks TI SB hm1
      dsimp only [Nd.kind, Nd.word, Nd.at, Nd.kids] at d0 d1 d2 d3 KI ST hm2 HM1
      have hm : depA (f.toL[i]).2.2.2 0 ≤ 1000000 := by have := HM1.out; omega
      clear hm2
      generalize depA (f.toL[i]).2.2.2 0 = m at *
      generalize (f.toL[i]).1 = n0 at *
      generalize (f.toL[i]).2.1 = n1 at *
      generalize (f.toL[i]).2.2.1 = n2 at *
      generalize (f.toL[i]).2.2.2 = n3 at *
      have GA := al wr (.cells #[.int .i64 n0, .string n1, .int .i64 n2, .slice ka n3.len kc] 51)
      have NB := blk_new wr (.cells #[.int .i64 n0, .string n1, .int .i64 n2, .slice ka n3.len kc] 51)
      have y0 := blk_cell NB 0
      have y1 := blk_cell NB 1
      have y2 := blk_cell NB 2
      have y3 := blk_cell NB 3
      have KJ := hide (KI.out _ GA)
      have CA := hide (hC.out.trans GA)
      clear GA KI NB
      go_wp2_with fail
      refine KJ.out.mono ?_
      rintro e w6 ⟨rfl, g6⟩
      have C6 := hide (CA.out.trans g6)
      clear g6 KJ y0 y1 y2 y3
      have F9 : Hid (DpInv w1 w6 f (i + 1) (max d (m + 1)) RR) := hide ⟨C6, ST⟩
      have em : max (d : Int) ((m + 1 : Nat) : Int) = ((max d (m + 1) : Nat) : Int) := by omega
      go_wp2_with fail
      go_roundw
      case rel => exact ⟨max d (m + 1), i + 1, by first | go_num | (congr 1; omega), by go_num, by omega, HM1.out, F9⟩
      case measure => simp [intOf]; omega
    · have hif : i = f.len := by omega
      have HX : Hid (RR = d) := hide (by
        have h := hM.out
        rw [hif, Ns.drop_all] at h
        exact h.symm)
      have GX := hide (GG.out.trans hC.out)
      clear hM HV IH HR
      have i2 : decide (i < f.len) = false := by simp [hlt]
      subst hif
      go_wp2_with fail
      go_ret
      exact ⟨by rw [HX.out]; rfl, GX.out⟩

theorem pdepth_all (n : Nat) : ∀ (f : Ns), f.size ≤ n → f.size ≤ 1000000 → ∀ (k : Int) (s : ByteArray) (a : Int) (v : Value) (X : Nat → Prop) (w : World), (∀ x, X x → x < w.heap.size) → Ts w X v f →
    Calls Try.prog 25 #[.agg #[.int .i64 k, .string s, .int .i64 a, v]] w fun e w' => e = .returned (.int .i64 ((depA f 0 + 1 : Nat) : Int)) ∧ Chg (fun _ => False) w w' := by
  induction n with
  | zero => exact fun f hf => pdepth_step 0 (fun g hg => absurd hg (Nat.not_lt_zero _)) f hf
  | succ n ih => exact fun f hf => pdepth_step (n + 1) (fun g hg => ih g (by omega)) f hf
theorem pdepth_any (f : Ns) (hf : f.size ≤ 1000000) (k : Int) (s : ByteArray) (a : Int) (v : Value) (X : Nat → Prop) (w : World) (hB : ∀ x, X x → x < w.heap.size) (hv : Ts w X v f) :
    Calls Try.prog 25 #[.agg #[.int .i64 k, .string s, .int .i64 a, v]] w fun e w' => e = .returned (.int .i64 ((depA f 0 + 1 : Nat) : Int)) ∧ Chg (fun _ => False) w w' :=
  pdepth_all f.size f (Nat.le_refl _) hf k s a v X w hB hv
end Go.Proofs.Ytboeeaekhijboaa
