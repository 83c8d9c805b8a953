/- Laws of another body at a path, in plain words. -/
import Derived.Test.YtnpcapdlgcaniaaDoorReplace
import Derived.Test.YtnpcapdlgcaniaaDoorOpensT
import Derived.Test.YtnpcapdlgcaniaaDoorOrders
namespace Go.Proofs.YtnpcapdlgcaniaaDoor
open Go.RowKit
set_option linter.unusedVariables false
set_option linter.unusedSimpArgs false

theorem underB_iff {l m : List Int} : underB l m = true ↔ m.length ≤ l.length ∧ l.take m.length = m := by
  unfold underB
  rw [Bool.and_eq_true, decide_eq_true_eq, intsEq_iff]
theorem underB_cons {i j : Int} {p q : List Int} : underB (i :: p) (j :: q) = true ↔ i = j ∧ underB p q = true := by
  rw [underB_iff, underB_iff]
  simp only [List.length_cons, List.take_succ_cons, List.cons.injEq]
  constructor
  · rintro ⟨h1, h2, h3⟩; exact ⟨h2, by omega, h3⟩
  · rintro ⟨h1, h2, h3⟩; exact ⟨by omega, h1, h3⟩
theorem underB_nil' (p : List Int) : underB p [] = true := underB_iff.2 ⟨Nat.zero_le _, rfl⟩
theorem sub_setT {b : Fs} {k i : Int} {f : Tms} {m : Nat} {x : Tm} (hm : m < f.toL.length) : Tm.sub (b, k, i, f.setT m x) (m : Int) = some x := by
  unfold Tm.sub
  rw [if_pos (by omega)]
  show (f.setT m x).toL[(m : Int).toNat]? = some x
  rw [Tms.setT_toL, Int.toNat_natCast, List.getElem?_set_self hm]
theorem sub_setT_ne {b : Fs} {k i j : Int} {f : Tms} {m : Nat} {x : Tm} (hj : ¬ j = (m : Int)) : Tm.sub (b, k, i, f.setT m x) j = Tm.sub (b, k, i, f) j := by
  unfold Tm.sub
  by_cases h : 0 ≤ j
  · rw [if_pos h, if_pos h]
    show (f.setT m x).toL[j.toNat]? = f.toL[j.toNat]?
    rw [Tms.setT_toL, List.getElem?_set_ne (by omega)]
  · rw [if_neg h, if_neg h]
/-- what replG comes to, one step down -/
theorem replG_cons {t y z : Tm} {i : Int} {p : List Int} (h : replG t y (i :: p) = some z) : ∃ (m : Nat) (hm : m < t.ag.toL.length) (s' : Tm), i = (m : Int) ∧ replG t.ag.toL[m] y p = some s' ∧ z = (t.bs, t.kd, t.ix, t.ag.setT m s') := by
  simp only [replG] at h
  cases hs : t.sub i with
  | none => rw [hs] at h; cases h
  | some x =>
    rw [hs] at h
    obtain ⟨s', h1, rfl⟩ := Option.map_eq_some_iff.1 h
    obtain ⟨m, hm, rfl, rfl⟩ := sub_kid hs
    exact ⟨m, hm, s', rfl, h1, by rw [Int.toNat_natCast]⟩
theorem repl_some : ∀ (p : List Int) (t y : Tm), (replG t y p).isSome = (atR t p).isSome
  | [], t, y => rfl
  | i :: p, t, y => by
    simp only [replG, atR]
    cases t.sub i with
    | none => rfl
    | some x => simp only [Option.isSome_map]; exact repl_some p x y
theorem at_repl : ∀ (p : List Int) (t y z x : Tm) (l : Fs), replG t y p = some z → atR t p = some (x, l) → atR z p = some ((x.bs, y.kd, y.ix, y.ag), l)
  | [], t, y, z, x, l, h, h2 => by
    cases h
    cases h2
    rfl
  | i :: p, t, y, z, x, l, h, h2 => by
    obtain ⟨m, hm, s', rfl, h1, rfl⟩ := replG_cons h
    simp only [atR] at h2 ⊢
    rw [Tm.sub_some hm] at h2
    obtain ⟨⟨x', l'⟩, h3, h4⟩ := Option.map_eq_some_iff.1 h2
    simp only [Prod.mk.injEq] at h4
    obtain ⟨rfl, rfl⟩ := h4
    rw [sub_setT hm]
    simp only [at_repl p _ y s' x' l' h1 h3, Option.map_some]
theorem at_apart : ∀ (p q : List Int) (t y z : Tm), replG t y p = some z → underB p q = false → underB q p = false → (atR z q).map (·.1) = (atR t q).map (·.1)
  | [], q, t, y, z, h, h1, h2 => by rw [underB_nil'] at h2; cases h2
  | i :: p, [], t, y, z, h, h1, h2 => by rw [underB_nil'] at h1; cases h1
  | i :: p, j :: q, t, y, z, h, h1, h2 => by
    obtain ⟨m, hm, s', rfl, h3, rfl⟩ := replG_cons h
    simp only [atR]
    by_cases hj : j = (m : Int)
    · subst hj
      rw [sub_setT hm, Tm.sub_some hm]
      have e1 : underB p q = false := by
        cases hu : underB p q with
        | false => rfl
        | true => rw [underB_cons.2 ⟨rfl, hu⟩] at h1; cases h1
      have e2 : underB q p = false := by
        cases hu : underB q p with
        | false => rfl
        | true => rw [underB_cons.2 ⟨rfl, hu⟩] at h2; cases h2
      have ih := at_apart p q _ y s' h3 e1 e2
      simp only [Option.map_map]
      show (atR s' q).map (·.1) = (atR t.ag.toL[m] q).map (·.1)
      exact ih
    · rw [sub_setT_ne hj]
theorem setT_size : ∀ (f : Tms) (m : Nat) (x : Tm) (hm : m < f.toL.length), (f.setT m x).size + ((f.toL[m]).bs.size + (f.toL[m]).ag.size) = f.size + (x.bs.size + x.ag.size)
  | .nil, m, x, hm => absurd hm (Nat.not_lt_zero _)
  | .cons b k i a r, 0, x, hm => by
    obtain ⟨x0, x1, x2, x3⟩ := x
    simp only [Tms.setT, Tms.toL, List.set_cons_zero, Tms.ofL, Tms.size, List.getElem_cons_zero, Tm.bs, Tm.ag, Tms.ofL_toL]
    omega
  | .cons b k i a r, m + 1, x, hm => by
    have h := setT_size r m x (by simpa [Tms.toL] using hm)
    simp only [Tms.setT, Tms.toL, List.set_cons_succ, Tms.ofL, Tms.size, List.getElem_cons_succ] at h ⊢
    omega
theorem repl_size : ∀ (p : List Int) (t y z : Tm), replG t y p = some z → z.bs.size + z.ag.size ≤ t.bs.size + t.ag.size + y.ag.size
  | [], t, y, z, h => by
    cases h
    simp only [Tm.bs, Tm.ag]
    omega
  | i :: p, t, y, z, h => by
    obtain ⟨m, hm, s', rfl, h1, rfl⟩ := replG_cons h
    have ih := repl_size p _ y s' h1
    have h2 := setT_size t.ag m s' hm
    simp only [Tm.bs, Tm.ag] at *
    omega
theorem tin_get : ∀ {f : Tms}, TIn f → ∀ i (h : i < f.toL.length), In64' (f.toL[i]).kd ∧ In64' (f.toL[i]).ix ∧ TIn (f.toL[i]).ag
  | .nil, _, i, h => absurd h (Nat.not_lt_zero _)
  | .cons b k j a r, hs, 0, h => ⟨hs.1, hs.2.1, hs.2.2.1⟩
  | .cons b k j a r, hs, i + 1, h => tin_get (f := r) hs.2.2.2 i (by simpa [Tms.toL] using h)
theorem repl_in : ∀ (p : List Int) (t y z : Tm), replG t y p = some z → (In64' t.kd ∧ In64' t.ix ∧ TIn t.ag) → (In64' y.kd ∧ In64' y.ix ∧ TIn y.ag) → In64' z.kd ∧ In64' z.ix ∧ TIn z.ag
  | [], t, y, z, h, ht, hy => by
    cases h
    exact hy
  | i :: p, t, y, z, h, ht, hy => by
    obtain ⟨m, hm, s', rfl, h1, rfl⟩ := replG_cons h
    have ih := repl_in p _ y s' h1 (tin_get ht.2.2 m hm) hy
    refine ⟨ht.1, ht.2.1, tin_mk (fun j hj => ?_)⟩
    have hj' : j < t.ag.toL.length := by
      have : (t.ag.setT m s').toL.length = t.ag.toL.length := by rw [Tms.setT_toL, List.length_set]
      simp only [Tm.ag] at hj this ⊢
      omega
    simp only [Tm.ag, Tms.setT_toL] at hj ⊢
    rw [List.getElem_set]
    split
    · exact ih
    · exact tin_get ht.2.2 j hj'
theorem repl_ok (p : List Int) (t y z : Tm) (h : replG t y p = some z) (ht : In64' t.kd ∧ In64' t.ix ∧ TIn t.ag) (hy : In64' y.kd ∧ In64' y.ix ∧ TIn y.ag) (hs : 1 + t.bs.size + t.ag.size ≤ 150) (hs2 : 1 + y.bs.size + y.ag.size ≤ 150) : TmOk z := by
  have h1 := repl_size p t y z h
  have h2 := repl_in p t y z h ht hy
  have h3 := Tms.len_size z.ag
  exact ⟨by omega, h2.2.1, by omega, tok_of h2.2.2 (by omega), by omega⟩
end Go.Proofs.YtnpcapdlgcaniaaDoor
