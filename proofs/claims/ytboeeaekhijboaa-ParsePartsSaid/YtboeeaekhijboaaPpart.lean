/- The program's parser: part, lam. -/
import Derived.Test.YtboeeaekhijboaaPopen
namespace Go.Proofs.Ytboeeaekhijboaa
open Go.RowKit
set_option linter.unusedVariables false
set_option linter.unusedSimpArgs false

theorem bLp_l : bLp.toList = [40] := by kernel_rfl
def partV (ts : List Tok) (s : ByteArray) : St → Bool
  | .ok k => partB ts s k
  | .error _ => false

set_option maxRecDepth 100000 in
set_option maxHeartbeats 4000000 in
theorem part_any {rb pb : Nat} {v : Value} {ts : List Tok} {s : ByteArray} {o : Nat} {st : St} {w : World} (h : PS w rb pb v ts s o st) :
    Calls Try.prog 80 #[.pointer (some ⟨pb, 0, none⟩)] w fun e w' => e = .returned (.bool (partV ts s st)) ∧ Chg (fun _ => False) w w' := by
  have HP := hide h
  obtain ⟨c0, c1, _, _, _, _⟩ := h.cells
  have PK := hide (fun w' (h : PS w' rb pb v ts s o st) => peek_some rb rb v ts s st.pos 0 h.le (by have := h.env.len; omega) (by have := h.env.size; omega) w' h.rd h.tks)
  obtain ⟨t, ht⟩ : ∃ t, tokAt ts s st.pos 0 = t := ⟨_, rfl⟩
  have HT := hide ht
  rw [ht] at PK
  clear h ht
  obtain ⟨t0, t1, t2⟩ := t
  have etv : tokV (t0, t1, t2) = .agg #[.int .i64 t0, .string t1, .int .i64 (t2 : Int)] := rfl
  rw [etv] at PK
  clear etv
  go_enter Try.func80, Try.ntmps80
  go_wp2_with fail
  refine (PK.out w HP.out).mono ?_
  rintro e w2 ⟨rfl, g2⟩
  have G3 := hide (g2.trans (al w2 (.cells #[.int .i64 t0, .string t1, .int .i64 (t2 : Int)] 75)))
  have B3 := hide (blk_new w2 (.cells #[.int .i64 t0, .string t1, .int .i64 (t2 : Int)] 75))
  have H3 := hide (HP.out.chg G3.out (fun _ _ h => h))
  clear g2
  obtain ⟨A, hA⟩ : ∃ A, w2.heap.size = A := ⟨_, rfl⟩
  rw [hA] at B3
  go_wp2_with fail
  clear hA
  generalize w2.alloc (.cells #[.int .i64 t0, .string t1, .int .i64 (t2 : Int)] 75) = w3 at *
  have q0 := blk_cell B3.out 0
  have q1 := blk_cell B3.out 1
  simp only [List.getElem?_toArray, List.getElem?_cons_zero, List.getElem?_cons_succ] at q0 q1
  cases st with
  | error x =>
    refine (ok_err H3.out).mono ?_
    rintro e w' ⟨rfl, rfl⟩
    go_wp2_with fail
    go_ret
    exact ⟨rfl, G3.out⟩
  | ok k =>
    have HV : Hid (partV ts s (.ok k) = ((t0 == 1) || ((t0 == 3) && (t1.toList == bLp.toList)))) := hide (by
      have e : tokAt ts s k 0 = (t0, t1, t2) := HT.out
      show partB ts s k = _
      unfold partB
      rw [e])
    refine (ok_ok H3.out).mono ?_
    rintro e w' ⟨rfl, rfl⟩
    cases e1 : (t0 == 1)
    · cases e3 : (t0 == 3)
      · go_wp2_with fail
        go_ret
        exact ⟨ret_bool (by rw [HV.out, e1, e3]; rfl), G3.out⟩
      · cases ex : (t1.toList == ([40] : List UInt8))
        · go_wp2_with fail
          go_ret
          exact ⟨ret_bool (by rw [HV.out, e1, e3]; rw [bLp_l, ex]; rfl), G3.out⟩
        · go_wp2_with fail
          go_ret
          exact ⟨ret_bool (by rw [HV.out, e1, e3]; rw [bLp_l, ex]; rfl), G3.out⟩
    · go_wp2_with fail
      go_ret
      exact ⟨ret_bool (by rw [HV.out, e1]; rfl), G3.out⟩
end Go.Proofs.Ytboeeaekhijboaa
