/- Plain law: the document's order of looking gives what New gives. -/
import Derived.Test.YtdcpcemihpkkaaaFacts
namespace Go.Proofs.Ytdcpcemihpkkaaa
open Go.RowKit Go.Maps
set_option linter.unusedVariables false
set_option linter.unusedSimpArgs false

theorem Reach.first {ps : Pairs} {i j : Nat} (h : Reach ps i j) : ∃ m, (i, m) ∈ ps := by
  induction h with
  | edge h => exact ⟨_, h⟩
  | trans _ _ ih _ => exact ih

theorem nc_arg {N : Int} {rp rs : List (Int × Int)} (h : N < 0 ∨ N > 1000) : newCode N rp rs = 1 := by unfold newCode; rw [if_pos h]
theorem nc_pairs {N : Int} {rp rs : List (Int × Int)} (h : rp.any (outP N) = true) : newCode N rp rs = 1 := by
  unfold newCode
  by_cases h1 : N < 0 ∨ N > 1000
  · rw [if_pos h1]
  · rw [if_neg h1, if_pos h]
theorem nc_status {N : Int} {rp rs : List (Int × Int)} (h : rs.any (outS N) = true) : newCode N rp rs = 1 := by
  by_cases h2 : rp.any (outP N) = true
  · exact nc_pairs h2
  · unfold newCode
    by_cases h1 : N < 0 ∨ N > 1000
    · rw [if_pos h1]
    · rw [if_neg h1, if_neg h2, if_pos h]
theorem nc_name {N : Int} {rp rs : List (Int × Int)} (h1 : ¬ (N < 0 ∨ N > 1000)) (h2 : rp.any (outP N) = false) (h3 : rs.any (outS N) = false) (h : dup rs = true) : newCode N rp rs = 4 := by
  unfold newCode
  rw [if_neg h1, if_neg (by rw [h2]; decide), if_neg (by rw [h3]; decide), if_pos h]
theorem nc_order {N : Int} {rp rs : List (Int × Int)} (h1 : ¬ (N < 0 ∨ N > 1000)) (h2 : rp.any (outP N) = false) (h3 : rs.any (outS N) = false) (h4 : dup rs = false) (h : cyc N.toNat (nats rp) = true) : newCode N rp rs = 8 := by
  unfold newCode
  rw [if_neg h1, if_neg (by rw [h2]; decide), if_neg (by rw [h3]; decide), if_neg (by rw [h4]; decide), if_pos h]
theorem nc_ok {N : Int} {rp rs : List (Int × Int)} (h1 : ¬ (N < 0 ∨ N > 1000)) (h2 : rp.any (outP N) = false) (h3 : rs.any (outS N) = false) (h4 : dup rs = false) (h : cyc N.toNat (nats rp) = false) : newCode N rp rs = 0 := by
  unfold newCode
  rw [if_neg h1, if_neg (by rw [h2]; decide), if_neg (by rw [h3]; decide), if_neg (by rw [h4]; decide), if_neg (by rw [h]; decide)]

theorem any_at {l : List (Int × Int)} {f : Int × Int → Bool} {k : Nat} (h : k < l.length) (e : f l[k] = true) : l.any f = true := by
  rw [List.any_eq_true]; exact ⟨_, List.getElem_mem h, e⟩
theorem any_takeN {l : List (Int × Int)} {f : Int × Int → Bool} {k : Nat} (h : k < l.length) (h0 : (l.take k).any f = false) (e : f l[k] = false) : (l.take (k + 1)).any f = false := by
  rw [List.take_succ_eq_append_getElem h, List.any_append, h0]; simp [e]

/-- Are two constants the same, the second at j, the first at i? -/
theorem dup_at {rs : List (Int × Int)} {j i : Nat} (hj : j < rs.length) (hi : i < j) (e : rs[i].1 = rs[j].1) : dup rs = true := by
  unfold dup
  rw [List.any_eq_true]
  refine ⟨j, List.mem_range.2 hj, ?_⟩
  unfold dupAt kindOf
  rw [List.getD_eq_getElem?_getD, List.getElem?_eq_getElem hj, Option.isSome_map]
  rw [List.find?_isSome]
  refine ⟨rs[i], ?_, by simp [e]⟩
  rw [List.mem_iff_getElem]
  exact ⟨i, by rw [List.length_take]; omega, by rw [List.getElem_take]⟩
theorem dup_none {rs : List (Int × Int)} (h : ∀ j (hj : j < rs.length) i (hi : i < j), rs[i].1 ≠ rs[j].1) : dup rs = false := by
  unfold dup
  rw [List.any_eq_false]
  intro j hj
  have hj' := List.mem_range.1 hj
  unfold dupAt kindOf
  rw [List.getD_eq_getElem?_getD, List.getElem?_eq_getElem hj', Option.isSome_map, List.find?_isSome]
  rintro ⟨s, hs, e⟩
  rw [List.mem_iff_getElem] at hs
  obtain ⟨i, hi, rfl⟩ := hs
  rw [List.length_take] at hi
  rw [List.getElem_take] at e
  exact h j hj' i (by omega) (by simpa using e)

theorem cyc_at {N : Int} {rp : List (Int × Int)} {k : Nat} (hb : rp.any (outP N) = false) (h : k < rp.length) (e : abv N.toNat (nats rp) rp[k].1 rp[k].1 = true) : cyc N.toNat (nats rp) = true := by
  rw [abv_iff] at e
  obtain ⟨e1, e2, _, _, e5⟩ := e
  unfold cyc
  rw [List.any_eq_true]
  exact ⟨_, List.mem_range.2 (by omega), (above_iff _ _ _).2 e5⟩
theorem cyc_none {N : Int} {rp : List (Int × Int)} (hb : rp.any (outP N) = false) (h : rp.any (fun p => abv N.toNat (nats rp) p.1 p.1) = false) : cyc N.toNat (nats rp) = false := by
  unfold cyc
  rw [List.any_eq_false]
  intro c hc e
  have hc' := List.mem_range.1 hc
  have r := (above_iff _ _ _).1 e
  obtain ⟨m, hm⟩ := r.first
  obtain ⟨p, hp, hpe⟩ := List.mem_map.1 hm
  have hb' := outP_false hb p hp
  injection hpe with h1 h2
  rw [List.any_eq_false] at h
  refine h p hp ?_
  rw [abv_iff, h1]
  exact ⟨hb'.1.1, by omega, hb'.1.1, by omega, r⟩

theorem outP_fst {n : Int} {p : Int × Int} (h : outB n p.1 = true) : outP n p = true := by unfold outP; rw [h]; rfl
theorem outP_snd {n : Int} {p : Int × Int} (h : outB n p.2 = true) : outP n p = true := by unfold outP; rw [h, Bool.or_true]
theorem outP_no {n : Int} {p : Int × Int} (h1 : outB n p.1 = false) (h2 : outB n p.2 = false) : outP n p = false := by unfold outP; rw [h1, h2]; rfl
end Go.Proofs.Ytdcpcemihpkkaaa
