/- filigreeref14.Kind. The document's fault. -/
import Derived.Test.YtboeeaekhijboaaPtoks
import Derived.Test.YtboeeaekhijboaaShort
import Derived.Test.YtboeeaekhijboaaPrtyp
import Derived.Test.YtboeeaekhijboaaRsplit
import Derived.Deep.CutBlock
namespace Go.Proofs.Ytboeeaekhijboaa
open Go.RowKit
set_option linter.unusedVariables false
set_option linter.unusedSimpArgs false

theorem kind_eq (x : ByteArray) (l : List UInt8) : ((⟨l.toArray⟩ : ByteArray) = x) ↔ ((x.toList == l) = true) := by
 rw [beq_iff_eq, Lib.toList_data]
 constructor
 ·
  intro h; rw [← h]
 ·
  intro h; rw [← h]
theorem kind_law (x : ByteArray) : kindOf x = if (x.toList == ([115, 111, 114, 116] : List UInt8)) = true then 1 else if (x.toList == ([99, 111, 110, 115, 116] : List UInt8)) = true then 2 else if (x.toList == ([118, 97, 114] : List UInt8)) = true then 3 else if (x.toList == ([101, 113] : List UInt8)) = true then 4 else if (x.toList == ([114, 117, 108, 101] : List UInt8)) = true then 5 else if (x.toList == ([112, 114, 101, 99] : List UInt8)) = true then 6 else if (x.toList == ([115, 116, 97, 116, 117, 115] : List UInt8)) = true then 7 else if (x.toList == ([99, 111, 109, 112, 108, 101, 116, 101] : List UInt8)) = true then 8 else if (x.toList == ([110, 111, 114, 109, 97, 108] : List UInt8)) = true then 9 else if (x.toList == ([100, 101, 99, 105, 100, 101] : List UInt8)) = true then 10 else if (x.toList == ([99, 111, 110, 102, 108, 117, 101, 110, 116] : List UInt8)) = true then 11 else if (x.toList == ([99, 101, 114, 116, 105, 102, 121] : List UInt8)) = true then 12 else 0 := by
 have h := kind_eq x
 unfold kindOf kinds Lib.idxOfS
 simp only [Lib.idxFromS]
 have e : ∀ l : List UInt8, ((⟨l.toArray⟩ : ByteArray) = x) = ((x.toList == l) = true) := fun l => propext (h l)
 have e0 : ((⟨#[115, 111, 114, 116]⟩ : ByteArray) = x) = ((x.toList == ([115, 111, 114, 116] : List UInt8)) = true) := e [115, 111, 114, 116]
 have e1 : ((⟨#[99, 111, 110, 115, 116]⟩ : ByteArray) = x) = ((x.toList == ([99, 111, 110, 115, 116] : List UInt8)) = true) := e [99, 111, 110, 115, 116]
 have e2 : ((⟨#[118, 97, 114]⟩ : ByteArray) = x) = ((x.toList == ([118, 97, 114] : List UInt8)) = true) := e [118, 97, 114]
 have e3 : ((⟨#[101, 113]⟩ : ByteArray) = x) = ((x.toList == ([101, 113] : List UInt8)) = true) := e [101, 113]
 have e4 : ((⟨#[114, 117, 108, 101]⟩ : ByteArray) = x) = ((x.toList == ([114, 117, 108, 101] : List UInt8)) = true) := e [114, 117, 108, 101]
 have e5 : ((⟨#[112, 114, 101, 99]⟩ : ByteArray) = x) = ((x.toList == ([112, 114, 101, 99] : List UInt8)) = true) := e [112, 114, 101, 99]
 have e6 : ((⟨#[115, 116, 97, 116, 117, 115]⟩ : ByteArray) = x) = ((x.toList == ([115, 116, 97, 116, 117, 115] : List UInt8)) = true) := e [115, 116, 97, 116, 117, 115]
 have e7 : ((⟨#[99, 111, 109, 112, 108, 101, 116, 101]⟩ : ByteArray) = x) = ((x.toList == ([99, 111, 109, 112, 108, 101, 116, 101] : List UInt8)) = true) := e [99, 111, 109, 112, 108, 101, 116, 101]
 have e8 : ((⟨#[110, 111, 114, 109, 97, 108]⟩ : ByteArray) = x) = ((x.toList == ([110, 111, 114, 109, 97, 108] : List UInt8)) = true) := e [110, 111, 114, 109, 97, 108]
 have e9 : ((⟨#[100, 101, 99, 105, 100, 101]⟩ : ByteArray) = x) = ((x.toList == ([100, 101, 99, 105, 100, 101] : List UInt8)) = true) := e [100, 101, 99, 105, 100, 101]
 have e10 : ((⟨#[99, 111, 110, 102, 108, 117, 101, 110, 116]⟩ : ByteArray) = x) = ((x.toList == ([99, 111, 110, 102, 108, 117, 101, 110, 116] : List UInt8)) = true) := e [99, 111, 110, 102, 108, 117, 101, 110, 116]
 have e11 : ((⟨#[99, 101, 114, 116, 105, 102, 121]⟩ : ByteArray) = x) = ((x.toList == ([99, 101, 114, 116, 105, 102, 121] : List UInt8)) = true) := e [99, 101, 114, 116, 105, 102, 121]
 simp only [e0, e1, e2, e3, e4, e5, e6, e7, e8, e9, e10, e11]
 generalize (x.toList == ([115, 111, 114, 116] : List UInt8)) = b0
 generalize (x.toList == ([99, 111, 110, 115, 116] : List UInt8)) = b1
 generalize (x.toList == ([118, 97, 114] : List UInt8)) = b2
 generalize (x.toList == ([101, 113] : List UInt8)) = b3
 generalize (x.toList == ([114, 117, 108, 101] : List UInt8)) = b4
 generalize (x.toList == ([112, 114, 101, 99] : List UInt8)) = b5
 generalize (x.toList == ([115, 116, 97, 116, 117, 115] : List UInt8)) = b6
 generalize (x.toList == ([99, 111, 109, 112, 108, 101, 116, 101] : List UInt8)) = b7
 generalize (x.toList == ([110, 111, 114, 109, 97, 108] : List UInt8)) = b8
 generalize (x.toList == ([100, 101, 99, 105, 100, 101] : List UInt8)) = b9
 generalize (x.toList == ([99, 111, 110, 102, 108, 117, 101, 110, 116] : List UInt8)) = b10
 generalize (x.toList == ([99, 101, 114, 116, 105, 102, 121] : List UInt8)) = b11
 clear e e0 e1 e2 e3 e4 e5 e6 e7 e8 e9 e10 e11 h
 cases b0
 ·
  cases b1
  ·
   cases b2
   ·
    cases b3
    ·
     cases b4
     ·
      cases b5
      ·
       cases b6
       ·
        cases b7
        ·
         cases b8
         ·
          cases b9
          ·
           cases b10
           ·
            cases b11
            ·
             rfl
            ·
             rfl
           ·
            rfl
          ·
           rfl
         ·
          rfl
        ·
         rfl
       ·
        rfl
      ·
       rfl
     ·
      rfl
    ·
     rfl
   ·
    rfl
  ·
   rfl
 ·
  rfl
set_option maxRecDepth 100000 in
set_option maxHeartbeats 4000000 in
theorem rkind_any (x : ByteArray) (w : World) : Calls Try.prog 69 #[.string x] w fun e w' => e = .returned (.int .i64 (kindOf x)) ∧ w = w' := by
 have HK := hide (kind_law x)
 generalize kindOf x = kd at *
 cases h0 : (x.toList == ([115, 111, 114, 116] : List UInt8))
 ·
  cases h1 : (x.toList == ([99, 111, 110, 115, 116] : List UInt8))
  ·
   cases h2 : (x.toList == ([118, 97, 114] : List UInt8))
   ·
    cases h3 : (x.toList == ([101, 113] : List UInt8))
    ·
     cases h4 : (x.toList == ([114, 117, 108, 101] : List UInt8))
     ·
      cases h5 : (x.toList == ([112, 114, 101, 99] : List UInt8))
      ·
       cases h6 : (x.toList == ([115, 116, 97, 116, 117, 115] : List UInt8))
       ·
        cases h7 : (x.toList == ([99, 111, 109, 112, 108, 101, 116, 101] : List UInt8))
        ·
         cases h8 : (x.toList == ([110, 111, 114, 109, 97, 108] : List UInt8))
         ·
          cases h9 : (x.toList == ([100, 101, 99, 105, 100, 101] : List UInt8))
          ·
           cases h10 : (x.toList == ([99, 111, 110, 102, 108, 117, 101, 110, 116] : List UInt8))
           ·
            cases h11 : (x.toList == ([99, 101, 114, 116, 105, 102, 121] : List UInt8))
            ·
             go_enter Try.func69, Try.ntmps69
             go_wp2_with fail
             go_ret
             exact ⟨by rw [HK.out]; simp [*], rfl⟩
            ·
             go_enter Try.func69, Try.ntmps69
             go_wp2_with fail
             go_ret
             exact ⟨by rw [HK.out]; simp [*], rfl⟩
           ·
            go_enter Try.func69, Try.ntmps69
            go_wp2_with fail
            go_ret
            exact ⟨by rw [HK.out]; simp [*], rfl⟩
          ·
           go_enter Try.func69, Try.ntmps69
           go_wp2_with fail
           go_ret
           exact ⟨by rw [HK.out]; simp [*], rfl⟩
         ·
          go_enter Try.func69, Try.ntmps69
          go_wp2_with fail
          go_ret
          exact ⟨by rw [HK.out]; simp [*], rfl⟩
        ·
         go_enter Try.func69, Try.ntmps69
         go_wp2_with fail
         go_ret
         exact ⟨by rw [HK.out]; simp [*], rfl⟩
       ·
        go_enter Try.func69, Try.ntmps69
        go_wp2_with fail
        go_ret
        exact ⟨by rw [HK.out]; simp [*], rfl⟩
      ·
       go_enter Try.func69, Try.ntmps69
       go_wp2_with fail
       go_ret
       exact ⟨by rw [HK.out]; simp [*], rfl⟩
     ·
      go_enter Try.func69, Try.ntmps69
      go_wp2_with fail
      go_ret
      exact ⟨by rw [HK.out]; simp [*], rfl⟩
    ·
     go_enter Try.func69, Try.ntmps69
     go_wp2_with fail
     go_ret
     exact ⟨by rw [HK.out]; simp [*], rfl⟩
   ·
    go_enter Try.func69, Try.ntmps69
    go_wp2_with fail
    go_ret
    exact ⟨by rw [HK.out]; simp [*], rfl⟩
  ·
   go_enter Try.func69, Try.ntmps69
   go_wp2_with fail
   go_ret
   exact ⟨by rw [HK.out]; simp [*], rfl⟩
 ·
  go_enter Try.func69, Try.ntmps69
  go_wp2_with fail
  go_ret
  exact ⟨by rw [HK.out]; simp [*], rfl⟩
end Go.Proofs.Ytboeeaekhijboaa
namespace Go.Proofs.Ytboeeaekhijboaa
open Go.RowKit
set_option linter.unusedVariables false
set_option linter.unusedSimpArgs false

set_option maxRecDepth 100000 in
set_option maxHeartbeats 16000000 in
theorem rfault_any {tb : Nat} {v : Value} {ts : List Tok} {s : ByteArray} {x : Pf} (hat : ∀ t ∈ ts, t.2.2 ≤ s.size) (htx : ∀ t ∈ ts, t.2.1.size ≤ 1000000) {w : World} (h : RS w tb v ts s (.error x)) :
  Calls Try.prog 38 #[.pointer (some ⟨tb, 0, none⟩)] w fun e w' => e = .returned (.agg #[.int .i64 (fl4 ts s (some x)).1, .int .i64 (fl4 ts s (some x)).2.1, .int .i64 (fl4 ts s (some x)).2.2.1, .string (fl4 ts s (some x)).2.2.2]) ∧ RS w' tb v ts s (.error x) ∧ Chg (fun y => y = tb) w w' := by
 have TB : Hid ((tokAt ts s x.2 0).2.2 ≤ s.size ∧ (tokAt ts s x.2 0).2.1.size ≤ 1000000 ∧ s.size ≤ 20000) := hide (by
  have hn1 := h.env.len
  have hn2 := h.env.size
  by_cases hlt : x.2 < ts.length
  ·
   rw [tokAt_in (by omega) (by omega) (show x.2 + (0 : Int).toNat < ts.length from hlt)]
   exact ⟨hat _ (List.getElem_mem _), htx _ (List.getElem_mem _), hn2⟩
  ·
   rw [tokAt_end (Or.inr (by omega))]
   exact ⟨Nat.le_refl _, Nat.zero_le 1000000, hn2⟩)
 have G0 := al w (.cells #[.int .i64 0, .int .i64 0, .int .i64 0, .string ⟨#[]⟩] 33)
 have B0 := hide (blk_new w (.cells #[.int .i64 0, .int .i64 0, .int .i64 0, .string ⟨#[]⟩] 33))
 have H0 := h.chg G0 (fun _ _ h => h)
 have hl := h.lt
 obtain ⟨A, hA⟩ : ∃ A, w.heap.size = A := ⟨_, rfl⟩
 have HL : Hid (tb < A ∧ w.heap.size = A) := hide ⟨by omega, hA⟩
 rw [hA] at B0
 have GS := Chg.set (w.alloc (.cells #[.int .i64 0, .int .i64 0, .int .i64 0, .string ⟨#[]⟩] 33)) tb 2 (.int .i64 (x.2 : Int))
 have H1 : RS ((w.alloc (.cells #[.int .i64 0, .int .i64 0, .int .i64 0, .string ⟨#[]⟩] 33)).setCell ⟨tb, 2, none⟩ (.int .i64 (x.2 : Int))) tb v ts s (.error x) := ⟨by
  have := blk_set H0.blk 2 (.int .i64 (x.2 : Int))
  exact this, H0.tks.chg GS (fun k hk => by omega), H0.le, H0.env, H0.code⟩
 have H1 := hide H1
 have B1 := hide (GS.blkS (by have := HL.out; omega) B0.out)
 have G1 := hide (G0.none.trans GS)
 obtain ⟨_, _, c2', _, c4'⟩ := H0.cells
 have x2 := blk_free H0.blk 2
 have c2 : (w.alloc (.cells #[.int .i64 0, .int .i64 0, .int .i64 0, .string ⟨#[]⟩] 33)).cell? ⟨tb, 2, none⟩ = some (.int .i64 (x.2 : Int)) := c2'
 have c4 : (w.alloc (.cells #[.int .i64 0, .int .i64 0, .int .i64 0, .string ⟨#[]⟩] 33)).cell? ⟨tb, 4, none⟩ = some (.int .i64 (x.2 : Int)) := c4'
 obtain ⟨t, ht⟩ : ∃ t, tokAt ts s x.2 0 = t := ⟨_, rfl⟩
 have HF : Hid (fl4 ts s (some x) = (x.1, (markOf (s.data.toList.take t.2.2)).1, (markOf (s.data.toList.take t.2.2)).2, headOf t.2.1)) := hide (by rw [← ht]; rfl)
 obtain ⟨FF, hFF⟩ : ∃ FF, fl4 ts s (some x) = FF := ⟨_, rfl⟩
 rw [hFF] at HF ⊢
 clear hl hA h hat htx H0 GS G0 B0 c2' c4' hFF
 go_enter Try.func38, Try.ntmps38
 go_wp2_with fail
 try rw [HL.out.2]
 generalize (w.alloc (.cells #[.int .i64 0, .int .i64 0, .int .i64 0, .string ⟨#[]⟩] 33)).setCell ⟨tb, 2, none⟩ (.int .i64 (x.2 : Int)) = w1 at *
 clear c2 c4 x2
 have AT := hide (fun w h => rat_any (tb := tb) (v := v) (ts := ts) (s := s) (st := .error x) (w := w) h)
 have AT : Hid (∀ w, RS w tb v ts s (.error x) → Calls Try.prog 67 #[.pointer (some ⟨tb, 0, none⟩)] w fun e w' => e = .returned (.int .i64 ((tokAt ts s x.2 0).2.2 : Int)) ∧ Chg (fun _ => False) w w') := AT
 have WD := hide (fun w h => rword_any (tb := tb) (v := v) (ts := ts) (s := s) (st := .error x) (w := w) h)
 have WD : Hid (∀ w, RS w tb v ts s (.error x) → Calls Try.prog 70 #[.pointer (some ⟨tb, 0, none⟩)] w fun e w' => e = .returned (.string (tokAt ts s x.2 0).2.1) ∧ Chg (fun _ => False) w w') := WD
 rw [ht] at AT WD TB
 clear ht
 obtain ⟨t0, t1, t2⟩ := t
 dsimp only at AT WD TB HF
 have RO := hide (fun w => refOf s (by have := TB.out.2.2; omega) t2 TB.out.1 w)
 have RH := hide (fun w => refHead t1 (by have := TB.out.2.1; omega) w)
 generalize (markOf (s.data.toList.take t2)).1 = ml at *
 generalize (markOf (s.data.toList.take t2)).2 = mc at *
 generalize headOf t1 = hd at *
 have c1 : w1.cell? ⟨tb, 1, none⟩ = some (.string s) := H1.out.cells.2.1
 have c3 : w1.cell? ⟨tb, 3, none⟩ = some (.int .i64 x.1) := H1.out.cells.2.2.2.1
 refine wp_region_held_drew (S := (fun w' => w'.cell? ⟨tb, 1, none⟩ = some (.string s) ∧ w'.cell? ⟨tb, 3, none⟩ = some (.int .i64 x.1))) (by kernel_rfl) (by go_keep) (fun hHeld => ?_)
 have D1 := (Chg.refl (fun _ => False) w1).drew
 have HD := hide (H1.out.chg D1 (fun _ _ h => h))
 have BD := hide (D1.blk B1.out)
 have GD := hide (G1.out.trans D1.none)
 clear D1
 first
  | (refine tku 0 ?_)
  | (refine tkl 0 ?_ ?_ ?_
     rotate_left
     (intro w hSw
      (try dsimp only at hSw)
      (go_simp <;> with_reducible rfl)))
 try simp only [Act.put, puts]
 first
  | (refine tku 1 ?_)
  | (refine tkl 1 ?_ ?_ ?_
     rotate_left
     (intro w hSw
      (try dsimp only at hSw)
      (go_simp <;> with_reducible rfl)))
 try simp only [Act.put, puts]
 first
  | (refine tku 2 ?_)
  | (refine tkl 2 ?_ ?_ ?_
     rotate_left
     (intro w hSw
      (try dsimp only at hSw)
      (go_simp <;> with_reducible rfl)))
 try simp only [Act.put, puts]
 first
  | (refine tku 3 ?_)
  | (refine tkl 3 ?_ ?_ ?_
     rotate_left
     (intro w hSw
      (try dsimp only at hSw)
      (go_simp <;> with_reducible rfl)))
 try simp only [Act.put, puts]
 first
  | (refine tku 4 ?_)
  | (refine tkl 4 ?_ ?_ ?_
     rotate_left
     (intro w hSw
      (try dsimp only at hSw)
      (go_simp <;> with_reducible rfl)))
 try simp only [Act.put, puts]
 first
  | (refine tku 5 ?_)
  | (refine tkl 5 ?_ ?_ ?_
     rotate_left
     (intro w hSw
      (try dsimp only at hSw)
      (go_simp <;> with_reducible rfl)))
 try simp only [Act.put, puts]
 first
  | (refine tku 6 ?_)
  | (refine tkl 6 ?_ ?_ ?_
     rotate_left
     (intro w hSw
      (try dsimp only at hSw)
      (go_simp <;> with_reducible rfl)))
 try simp only [Act.put, puts]
 first
  | (refine tku 7 ?_)
  | (refine tkl 7 ?_ ?_ ?_
     rotate_left
     (intro w hSw
      (try dsimp only at hSw)
      (go_simp <;> with_reducible rfl)))
 try simp only [Act.put, puts]
 first
  | (refine tku 8 ?_)
  | (refine tkl 8 ?_ ?_ ?_
     rotate_left
     (intro w hSw
      (try dsimp only at hSw)
      (go_simp <;> with_reducible rfl)))
 try simp only [Act.put, puts]
 first
  | (refine tku 11 ?_)
  | (refine tkl 11 ?_ ?_ ?_
     rotate_left
     (intro w hSw
      (try dsimp only at hSw)
      (go_simp <;> with_reducible rfl)))
 try simp only [Act.put, puts]
 refine rd1 9 (fun K hK => ?_)
 go_simp
 refine (AT.out _ HD.out).mono ?_
 rintro e w2 ⟨rfl, g2⟩
 have q2 := g2
 have H2 := hide (HD.out.chg q2 (fun _ _ h => h))
 have B2 := hide (q2.blk BD.out)
 have G2 := hide (GD.out.trans q2.none)
 clear g2 q2
 try go_simp
 refine hK.out _ _ ⟨H2.out.cells.2.1, H2.out.cells.2.2.2.1⟩ (fun hHeld => ?_)
 clear hK K
 try simp only [Act.put, puts]
 refine rd1 10 (fun K hK => ?_)
 go_simp
 refine (RO.out _).mono ?_
 rintro e w3 ⟨rfl, g3⟩
 have q3 := Chg.ofB g3
 have H3 := hide (H2.out.chg q3 (fun _ _ h => h))
 have B3 := hide (q3.blk B2.out)
 have G3 := hide (G2.out.trans q3.none)
 clear g3 q3
 try go_simp
 refine hK.out _ _ ⟨H3.out.cells.2.1, H3.out.cells.2.2.2.1⟩ (fun hHeld => ?_)
 clear hK K
 try simp only [Act.put, puts]
 refine rd1 12 (fun K hK => ?_)
 go_simp
 refine (WD.out _ H3.out).mono ?_
 rintro e w4 ⟨rfl, g4⟩
 have q4 := g4
 have H4 := hide (H3.out.chg q4 (fun _ _ h => h))
 have B4 := hide (q4.blk B3.out)
 have G4 := hide (G3.out.trans q4.none)
 clear g4 q4
 try go_simp
 refine hK.out _ _ ⟨H4.out.cells.2.1, H4.out.cells.2.2.2.1⟩ (fun hHeld => ?_)
 clear hK K
 try simp only [Act.put, puts]
 refine rd1 13 (fun K hK => ?_)
 go_simp
 refine (RH.out _).mono ?_
 rintro e w5 ⟨rfl, rfl⟩
 refine hK.out _ _ ⟨H4.out.cells.2.1, H4.out.cells.2.2.2.1⟩ (fun hHeld => ?_)
 clear hK K
 try simp only [Act.put, puts]
 first
  | (refine tku 14 ?_)
  | (refine tkl 14 ?_ ?_ ?_
     rotate_left
     (intro w hSw
      (try dsimp only at hSw)
      (go_simp <;> with_reducible rfl)))
 try simp only [Act.put, puts]
 refine rd1 15 (fun K hK => ?_)
 have b0 := blk_cell B4.out 0
 have ff0 := blk_free B4.out 0
 have b1 := blk_cell B4.out 1
 have ff1 := blk_free B4.out 1
 have b2 := blk_cell B4.out 2
 have ff2 := blk_free B4.out 2
 have b3 := blk_cell B4.out 3
 have ff3 := blk_free B4.out 3
 have NS : Hid (((((w4.setCell ⟨A, 0, none⟩ (.int .i64 x.1)).setCell ⟨A, 1, none⟩ (.int .i64 ml)).setCell ⟨A, 2, none⟩ (.int .i64 mc)).setCell ⟨A, 3, none⟩ (.string hd)).heap[A]? = some (.cells #[.int .i64 x.1, .int .i64 ml, .int .i64 mc, .string hd] 33) ∧ Chg (fun x => x = A) w4 ((((w4.setCell ⟨A, 0, none⟩ (.int .i64 x.1)).setCell ⟨A, 1, none⟩ (.int .i64 ml)).setCell ⟨A, 2, none⟩ (.int .i64 mc)).setCell ⟨A, 3, none⟩ (.string hd))) := hide ⟨(blk_set (blk_set (blk_set (blk_set B4.out 0 (.int .i64 x.1)) 1 (.int .i64 ml)) 2 (.int .i64 mc)) 3 (.string hd)), ((((Chg.set w4 A 0 (.int .i64 x.1)).trans (Chg.set (w4.setCell ⟨A, 0, none⟩ (.int .i64 x.1)) A 1 (.int .i64 ml))).trans (Chg.set ((w4.setCell ⟨A, 0, none⟩ (.int .i64 x.1)).setCell ⟨A, 1, none⟩ (.int .i64 ml)) A 2 (.int .i64 mc))).trans (Chg.set (((w4.setCell ⟨A, 0, none⟩ (.int .i64 x.1)).setCell ⟨A, 1, none⟩ (.int .i64 ml)).setCell ⟨A, 2, none⟩ (.int .i64 mc)) A 3 (.string hd)))⟩
 have H6 := hide (H4.out.chg NS.out.2 (fun y hy e => by have := HL.out; omega))
 go_simp
 refine hK.out _ _ ⟨H6.out.cells.2.1, H6.out.cells.2.2.2.1⟩ (fun hHeld => ?_)
 clear hK K
 try simp only [Act.put, puts]
 refine wpAnyH_done (by kernel_rfl) ?_ _
 go_wp2_with fail
 have GF := hide (rchg_fresh G4.out NS.out.2 (by have := HL.out; omega))
 generalize ((((w4.setCell ⟨A, 0, none⟩ (.int .i64 x.1)).setCell ⟨A, 1, none⟩ (.int .i64 ml)).setCell ⟨A, 2, none⟩ (.int .i64 mc)).setCell ⟨A, 3, none⟩ (.string hd)) = wF at *
 have r0 := blk_cell NS.out.1 0
 have r1 := blk_cell NS.out.1 1
 have r2 := blk_cell NS.out.1 2
 have r3 := blk_cell NS.out.1 3
 refine bodyPost_ret (v := .agg #[.int .i64 x.1, .int .i64 ml, .int .i64 mc, .string hd]) (by simp [results, Try.results38, go_sem, r0, r1, r2, r3]) rfl ?_
 exact ⟨by rw [HF.out], H6.out.chg (Chg.refl (fun _ => False) wF) (fun _ _ h => h), GF.out⟩
end Go.Proofs.Ytboeeaekhijboaa
