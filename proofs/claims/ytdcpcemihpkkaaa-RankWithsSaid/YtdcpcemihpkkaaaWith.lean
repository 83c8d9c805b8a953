/- With: with more pairs. -/
import Derived.Test.YtdcpcemihpkkaaaConcat
namespace Go.Proofs.Ytdcpcemihpkkaaa
open Go.RowKit Go.Maps
set_option linter.unusedVariables false
set_option linter.unusedSimpArgs false

def intsP (ps : Pairs) : List (Int × Int) := ps.map fun (p : Nat × Nat) => ((p.1 : Int), (p.2 : Int))
theorem intsP_len (ps : Pairs) : (intsP ps).length = ps.length := by unfold intsP; rw [List.length_map]
theorem prow_ints {w : World} {B : Nat} {v : Value} {ps : Pairs} (h : PRow w B v ps) : IRow w B v (intsP ps) := by
  obtain ⟨a, cap, rfl, h1⟩ := h
  refine ⟨a, cap, by rw [intsP_len], ?_⟩
  rcases h1 with h1 | ⟨g, off, e, h2, h3⟩
  · exact Or.inl (by rw [h1]; rfl)
  · refine Or.inr ⟨g, off, e, h2, fun i hi => ?_⟩
    have hi' : i < ps.length := by rw [intsP_len] at hi; exact hi
    have e0 : (intsP ps)[i]'hi = (((ps[i]'hi').1 : Int), ((ps[i]'hi').2 : Int)) := by simp [intsP]
    rw [e0]
    exact h3 i hi'
theorem ints_nats {n : Int} {rp : List (Int × Int)} (h : rp.any (outP n) = false) : intsP (nats rp) = rp := by
  have hq := outP_false h
  unfold intsP nats
  rw [List.map_map]
  have : ∀ p ∈ rp, ((fun (p : Nat × Nat) => ((p.1 : Int), (p.2 : Int))) ∘ fun (p : Int × Int) => (p.1.toNat, p.2.toNat)) p = p := by
    intro p hp
    have := hq p hp
    simp only [Function.comp]
    rw [Int.toNat_of_nonneg this.1.1, Int.toNat_of_nonneg this.2.1]
  rw [List.map_congr_left this, List.map_id']

theorem NewPost.early {n : Int} {rp rs : List (Int × Int)} {w w1 : World} {e : Ending} {w' : World} (h : NewPost n rp rs w1 e w') (g : Chg (fun _ => False) w w1) : NewPost n rp rs w e w' := by
  obtain ⟨h1, h2⟩ := h
  refine ⟨?_, g.trans h2⟩
  rcases h1 with h1 | ⟨h3, b, B, sv, e, hb, rest⟩
  · exact Or.inl h1
  · exact Or.inr ⟨h3, b, B, sv, e, Nat.le_trans g.size hb, rest⟩

theorem NewPost.form {n : Int} {rp rs : List (Int × Int)} {w : World} {e : Ending} {w' : World} (h : NewPost n rp rs w e w') : ∃ p c, e = .returned (.tuple #[.pointer p, .int .i64 c]) := by
  obtain ⟨h1, _⟩ := h
  rcases h1 with ⟨_, h1⟩ | ⟨_, b, B, sv, h1, _⟩
  · exact ⟨_, _, h1⟩
  · exact ⟨_, _, h1⟩

set_option maxRecDepth 100000 in
set_option maxHeartbeats 8000000 in
theorem with_some (b n : Nat) (lp lq rs : List (Int × Int)) (hlp : lp.length ≤ 400) (hlq : lq.length ≤ 400) (hls : rs.length ≤ 400) (hb : lp.any (outP n) = false) (hin : ∀ s ∈ rs, In64 s.1 ∧ In64 s.2) (mv : Value) (ya : Option Addr) (yc : Nat) (qa : Option Addr) (qc : Nat) (w : World) (h : Rs w b n (nats lp) mv (.slice ya rs.length yc)) (hs : IRow w b (.slice ya rs.length yc) rs)
    (hq : IRow w w.heap.size (.slice qa lq.length qc) lq) :
    Calls Try.prog 23 #[.pointer (some ⟨b, 0, none⟩), .slice qa lq.length qc] w (NewPost n (lp ++ lq) rs w) := by
  have x0 := h.n
  have x8 := h.status
  obtain ⟨pv, hpv, x1⟩ := h.pairs
  have lb := h.lt
  have hpi := prow_ints hpv
  rw [ints_nats hb] at hpi
  obtain ⟨pa, pc, rfl, hpi'⟩ := id hpi
  have C1 := hide (((Chg.refl (fun _ => False) w).drew).alloc (.cells #[.slice pa lp.length pc, .slice qa lq.length qc] 22))
  have NB := hide (blk_new w.drew (.cells #[.slice pa lp.length pc, .slice qa lq.length qc] 22))
  have cc := hide (concat_any w.heap.size w.heap.size pa qa pc qc lp lq (by omega) (by omega) (w.drew.alloc (.cells #[.slice pa lp.length pc, .slice qa lq.length qc] 22)) (blk_cell NB.out 0) (blk_cell NB.out 1)
    ((hpi.chg C1.out (fun _ _ h => h)).up (by omega)) (hq.chg C1.out (fun _ _ h => h)))
  have NW := hide (fun (v : Value) (w3 : World) (g : Chg (fun _ => False) w w3) (o : IRow w3 w3.heap.size v (lp ++ lq)) => (new_any n v (.slice ya rs.length yc) (lp ++ lq) rs (by rw [List.length_append]; omega) (by omega) hin w3.heap.size w3 (Nat.le_refl _) o ((hs.chg g (fun _ _ h => h)).up (by have := g.size; omega))).mono (fun e w' hp => hp.early g))
  clear h hs hq hpv hpi hpi' hin hb
  go_enter Try.func23, Try.ntmps23
  go_wp2_with fail
  go_region_held3 (fun w' => w'.cell? ⟨b, 0, none⟩ = some (.int .i64 (n : Int)) ∧ w'.cell? ⟨b, 1, none⟩ = some (.slice pa lp.length pc) ∧ w'.cell? ⟨b, 8, none⟩ = some (.slice ya rs.length yc))
    (go_keep)
    (first
      | (go_at_call 30; refine cc.out.mono ?_; rintro e w3 ⟨⟨v, rfl, o3⟩, g3⟩; have C3 := hide (C1.out.trans g3); have y0 := C3.out.cell (fun h => h) x0; have y1 := C3.out.cell (fun h => h) x1; have y8 := C3.out.cell (fun h => h) x8; have O3 := hide (irow_own o3); clear o3 g3)
      | (go_at_call 24; refine (NW.out _ _ C3.out O3.out).mono ?_; intro e w4 hpost; obtain ⟨p, c, rfl⟩ := hpost.form; have HP := hide hpost; have z0 := hpost.2.cell (fun h => h) x0; have z1 := hpost.2.cell (fun h => h) x1; have z8 := hpost.2.cell (fun h => h) x8; clear hpost))
  all_goals (go_wp2_with fail)
  refine bodyPost_ret (fn := Try.f23) (v := .tuple #[.pointer p, .int .i64 c]) (by simp [results, Try.results23, go_sem]) rfl ?_
  exact HP.out
end Go.Proofs.Ytdcpcemihpkkaaa
