/- The chapter's examples. -/
import Derived.Test.YtnpcapdlgcaniaaDoorAll
import Derived.Test.YtnpcapdlgcaniaaDoorText
namespace Go.Proofs.YtnpcapdlgcaniaaDoor
open Go.RowKit
set_option linter.unusedVariables false
set_option linter.unusedSimpArgs false

def gK : Tm := (.cons .nil 0 .nil, 1, 1, .cons .nil 0 0 .nil .nil)
def fK : Tm := (.nil, 1, 0, .cons .nil 1 2 .nil (.cons (.cons .nil 0 .nil) 1 1 (.cons .nil 0 0 .nil .nil) .nil))

/-- the example lies in memory -/
def KMem (S : Nat) (w : World) : Prop :=
  w.heap[S]? = some (.cells #[.slice none 0 0, .int .i64 0] 73) ∧
  w.heap[S + 1]? = some (.cells #[.slice none 0 0, .int .i64 0, .int .i64 0, .slice none 0 0] 35) ∧
  w.heap[S + 1 + 1]? = some (.cells #[.slice (some ⟨S, 0, none⟩) 1 1, .int .i64 1, .int .i64 1, .slice (some ⟨S + 1, 0, none⟩) 1 1] 35) ∧
  w.heap[S + 1 + 1 + 1]? = some (.cells #[.slice none 0 0, .int .i64 1, .int .i64 2, .slice none 0 0, .slice (some ⟨S, 0, none⟩) 1 1, .int .i64 1, .int .i64 1, .slice (some ⟨S + 1, 0, none⟩) 1 1] 35) ∧
  w.heap[S + 1 + 1 + 1 + 1]? = some (.cells #[.slice none 0 0, .int .i64 1, .int .i64 0, .slice (some ⟨S + 1 + 1 + 1, 0, none⟩) 2 2] 35) ∧
  w.heap[S + 1 + 1 + 1 + 1 + 1]? = some (.cells #[.int .i64 1, .int .i64 0] 3)
theorem kmem_mk (w : World) : KMem w.heap.size ((((((w.alloc (.cells #[.slice none 0 0, .int .i64 0] 73)).alloc (.cells #[.slice none 0 0, .int .i64 0, .int .i64 0, .slice none 0 0] 35)).alloc (.cells #[.slice (some ⟨w.heap.size, 0, none⟩) 1 1, .int .i64 1, .int .i64 1, .slice (some ⟨w.heap.size + 1, 0, none⟩) 1 1] 35)).alloc (.cells #[.slice none 0 0, .int .i64 1, .int .i64 2, .slice none 0 0, .slice (some ⟨w.heap.size, 0, none⟩) 1 1, .int .i64 1, .int .i64 1, .slice (some ⟨w.heap.size + 1, 0, none⟩) 1 1] 35)).alloc (.cells #[.slice none 0 0, .int .i64 1, .int .i64 0, .slice (some ⟨w.heap.size + 1 + 1 + 1, 0, none⟩) 2 2] 35)).alloc (.cells #[.int .i64 1, .int .i64 0] 3)) ∧ Chg (fun _ => False) w ((((((w.alloc (.cells #[.slice none 0 0, .int .i64 0] 73)).alloc (.cells #[.slice none 0 0, .int .i64 0, .int .i64 0, .slice none 0 0] 35)).alloc (.cells #[.slice (some ⟨w.heap.size, 0, none⟩) 1 1, .int .i64 1, .int .i64 1, .slice (some ⟨w.heap.size + 1, 0, none⟩) 1 1] 35)).alloc (.cells #[.slice none 0 0, .int .i64 1, .int .i64 2, .slice none 0 0, .slice (some ⟨w.heap.size, 0, none⟩) 1 1, .int .i64 1, .int .i64 1, .slice (some ⟨w.heap.size + 1, 0, none⟩) 1 1] 35)).alloc (.cells #[.slice none 0 0, .int .i64 1, .int .i64 0, .slice (some ⟨w.heap.size + 1 + 1 + 1, 0, none⟩) 2 2] 35)).alloc (.cells #[.int .i64 1, .int .i64 0] 3)) := by
  have b0 := blk_new w (.cells #[.slice none 0 0, .int .i64 0] 73)
  have b1 := blk_new (w.alloc (.cells #[.slice none 0 0, .int .i64 0] 73)) (.cells #[.slice none 0 0, .int .i64 0, .int .i64 0, .slice none 0 0] 35)
  simp only [World.size_alloc] at b1
  have b2 := blk_new ((w.alloc (.cells #[.slice none 0 0, .int .i64 0] 73)).alloc (.cells #[.slice none 0 0, .int .i64 0, .int .i64 0, .slice none 0 0] 35)) (.cells #[.slice (some ⟨w.heap.size, 0, none⟩) 1 1, .int .i64 1, .int .i64 1, .slice (some ⟨w.heap.size + 1, 0, none⟩) 1 1] 35)
  simp only [World.size_alloc] at b2
  have b3 := blk_new (((w.alloc (.cells #[.slice none 0 0, .int .i64 0] 73)).alloc (.cells #[.slice none 0 0, .int .i64 0, .int .i64 0, .slice none 0 0] 35)).alloc (.cells #[.slice (some ⟨w.heap.size, 0, none⟩) 1 1, .int .i64 1, .int .i64 1, .slice (some ⟨w.heap.size + 1, 0, none⟩) 1 1] 35)) (.cells #[.slice none 0 0, .int .i64 1, .int .i64 2, .slice none 0 0, .slice (some ⟨w.heap.size, 0, none⟩) 1 1, .int .i64 1, .int .i64 1, .slice (some ⟨w.heap.size + 1, 0, none⟩) 1 1] 35)
  simp only [World.size_alloc] at b3
  have b4 := blk_new ((((w.alloc (.cells #[.slice none 0 0, .int .i64 0] 73)).alloc (.cells #[.slice none 0 0, .int .i64 0, .int .i64 0, .slice none 0 0] 35)).alloc (.cells #[.slice (some ⟨w.heap.size, 0, none⟩) 1 1, .int .i64 1, .int .i64 1, .slice (some ⟨w.heap.size + 1, 0, none⟩) 1 1] 35)).alloc (.cells #[.slice none 0 0, .int .i64 1, .int .i64 2, .slice none 0 0, .slice (some ⟨w.heap.size, 0, none⟩) 1 1, .int .i64 1, .int .i64 1, .slice (some ⟨w.heap.size + 1, 0, none⟩) 1 1] 35)) (.cells #[.slice none 0 0, .int .i64 1, .int .i64 0, .slice (some ⟨w.heap.size + 1 + 1 + 1, 0, none⟩) 2 2] 35)
  simp only [World.size_alloc] at b4
  have b5 := blk_new (((((w.alloc (.cells #[.slice none 0 0, .int .i64 0] 73)).alloc (.cells #[.slice none 0 0, .int .i64 0, .int .i64 0, .slice none 0 0] 35)).alloc (.cells #[.slice (some ⟨w.heap.size, 0, none⟩) 1 1, .int .i64 1, .int .i64 1, .slice (some ⟨w.heap.size + 1, 0, none⟩) 1 1] 35)).alloc (.cells #[.slice none 0 0, .int .i64 1, .int .i64 2, .slice none 0 0, .slice (some ⟨w.heap.size, 0, none⟩) 1 1, .int .i64 1, .int .i64 1, .slice (some ⟨w.heap.size + 1, 0, none⟩) 1 1] 35)).alloc (.cells #[.slice none 0 0, .int .i64 1, .int .i64 0, .slice (some ⟨w.heap.size + 1 + 1 + 1, 0, none⟩) 2 2] 35)) (.cells #[.int .i64 1, .int .i64 0] 3)
  simp only [World.size_alloc] at b5
  exact ⟨⟨(blk_alloc (blk_alloc (blk_alloc (blk_alloc (blk_alloc b0))))), (blk_alloc (blk_alloc (blk_alloc (blk_alloc b1)))), (blk_alloc (blk_alloc (blk_alloc b2))), (blk_alloc (blk_alloc b3)), (blk_alloc b4), b5⟩, (((((al w _).alloc _).alloc _).alloc _).alloc _).alloc _⟩
theorem kmem_chg {S : Nat} {w w' : World} (h : KMem S w) (g : Chg (fun _ => False) w w') : KMem S w' :=
  ⟨g.blk (fun h => h) h.1, g.blk (fun h => h) h.2.1, g.blk (fun h => h) h.2.2.1, g.blk (fun h => h) h.2.2.2.1, g.blk (fun h => h) h.2.2.2.2.1, g.blk (fun h => h) h.2.2.2.2.2⟩
theorem kmem_tv {S : Nat} {w : World} (h : KMem S w) : TV w (fun x => S ≤ x ∧ x < w.heap.size) (.agg #[.slice none 0 0, .int .i64 1, .int .i64 0, .slice (some ⟨S + 1 + 1 + 1, 0, none⟩) 2 2]) fK := by
  obtain ⟨h0, h1, h2, h3, h4, h5⟩ := h
  have l0 := blk_lt h0
  have l1 := blk_lt h1
  have l3 := blk_lt h3
  have hb : Ts w (fun x => S ≤ x ∧ x < w.heap.size) (.slice (some ⟨S, 0, none⟩) 1 1) (.cons .nil 0 .nil) := ⟨_, _, rfl, Or.inr ⟨S, 0, rfl, ⟨Nat.le_refl _, l0⟩, ⟨_, _, blk_cell h0 0, Or.inl rfl⟩, blk_cell h0 1, trivial⟩⟩
  have ha : Tr w (fun x => S ≤ x ∧ x < w.heap.size) (.slice (some ⟨S + 1, 0, none⟩) 1 1) (.cons .nil 0 0 .nil .nil) := ⟨_, _, rfl, Or.inr ⟨S + 1, 0, rfl, ⟨by omega, l1⟩, tlies_cons.2 ⟨⟨_, blk_cell h1 0, Ts.nil _ _⟩, blk_cell h1 1, blk_cell h1 2, ⟨_, blk_cell h1 3, Tr.nil _ _⟩, trivial⟩⟩⟩
  refine ⟨none, 0, _, _, rfl, Ts.nil _ _, _, _, rfl, Or.inr ⟨S + 1 + 1 + 1, 0, rfl, ⟨by omega, l3⟩, tlies_cons.2 ⟨⟨_, blk_cell h3 0, Ts.nil _ _⟩, blk_cell h3 1, blk_cell h3 2, ⟨_, blk_cell h3 3, Tr.nil _ _⟩, tlies_cons.2 ⟨⟨_, blk_cell h3 4, hb⟩, blk_cell h3 5, blk_cell h3 6, ⟨_, blk_cell h3 7, ha⟩, trivial⟩⟩⟩⟩
theorem kmem_il {S : Nat} {w : World} (h : KMem S w) : Il w (fun x => S ≤ x ∧ x < w.heap.size) (.slice (some ⟨S + 1 + 1 + 1 + 1 + 1, 0, none⟩) 2 2) [1, 0] := by
  have h5 := h.2.2.2.2.2
  have l5 := blk_lt h5
  refine ⟨_, _, rfl, Or.inr ⟨_, 0, rfl, ⟨by omega, l5⟩, fun i hi => ?_⟩⟩
  match i, hi with
  | 0, _ => exact blk_cell h5 0
  | 1, _ => exact blk_cell h5 1
theorem fK_ok : TmOk fK := by
  refine ⟨by decide, by unfold In64'; decide, by decide, ?_, by decide⟩
  simp only [fK, Tm.ag, TOk, In64']
  decide
theorem fK_at : atG fK.bs fK [1, 0] = some ((.nil, 0, 0, .nil), .cons .nil 0 .nil) := rfl

theorem known_at {S : Nat} {w : World} {v u : Value} (hv : TV w (fun x => S ≤ x ∧ x < w.heap.size) v fK) (hu : Il w (fun x => S ≤ x ∧ x < w.heap.size) u [1, 0]) :
    Calls Tryd.prog 12 #[v, u] w fun e w' => (∃ va vb vc vd la lc, e = .returned (.tuple #[.agg #[.slice va 0 vb, .int .i64 0, .int .i64 0, .slice vc 0 vd], .slice la 1 lc, .int .i64 0])) ∧ Chg (fun _ => False) w w' := by
  have AT := at_any fK fK_ok [1, 0] (by decide) _ _ _ w (fun x hx => hx.2) hv hu
  rw [fK_at] at AT
  refine AT.mono ?_
  rintro e w2 ⟨⟨v', vl, rfl, tv, tl⟩, g2⟩
  obtain ⟨va, vb, vc, vd, rfl, _, _⟩ := tv
  obtain ⟨la, lc, rfl, _⟩ := tl
  exact ⟨⟨va, vb, vc, vd, la, lc, rfl⟩, g2⟩
theorem known_join : Lib.join ([1, 0].map Lib.itoa) [46] = [49, 46, 48] := by
  have h1 : Lib.itoa 1 = [49] := by unfold Lib.itoa; rw [if_neg (by decide)]; exact Lib.decDigits_one (i := 1) (by decide)
  have h0 : Lib.itoa 0 = [48] := by unfold Lib.itoa; rw [if_neg (by decide)]; exact Lib.decDigits_one (i := 0) (by decide)
  rw [List.map_cons, List.map_cons, List.map_nil, h1, h0]
  rfl
theorem known_text {S : Nat} {w : World} (h : w.heap[S]? = some (.cells #[.int .i64 1, .int .i64 0] 3)) :
    Calls Tryd.prog 37 #[.slice (some ⟨S, 0, none⟩) 2 2] w fun e w' => e = .returned (.string ⟨#[49, 46, 48]⟩) ∧ Chg (fun _ => False) w w' := by
  have hl := blk_lt h
  have T := text_any [1, 0] (by decide) (by rw [known_join]; decide) (.slice (some ⟨S, 0, none⟩) 2 2) (fun x => x < w.heap.size) w (fun x hx => hx) ⟨_, _, rfl, Or.inr ⟨_, 0, rfl, hl, fun i hi => by
    match i, hi with
    | 0, _ => exact blk_cell h 0
    | 1, _ => exact blk_cell h 1⟩⟩ (fun n hn => by
      simp only [List.mem_cons, List.not_mem_nil, or_false] at hn
      rcases hn with rfl | rfl
      · exact itoa_small 1 (by decide) w
      · exact itoa_small 0 (by decide) w)
  rw [show textB [1, 0] = ⟨#[49, 46, 48]⟩ by unfold textB; rw [known_join]; rfl] at T
  exact T
theorem known_all {S : Nat} {w : World} {v : Value} (hv : TV w (fun x => S ≤ x ∧ x < w.heap.size) v fK) :
    Calls Tryd.prog 19 #[v] w fun e w' => (∃ ra rc, e = .returned (.slice ra 4 rc)) ∧ Chg (fun _ => False) w w' := by
  refine (all_any fK fK_ok v _ w (fun x hx => hx.2) hv).mono ?_
  rintro e w2 ⟨⟨vr, us, rfl, hr, hu⟩, g⟩
  have hl : us.length = 4 := by
    have := congrArg List.length hu
    rw [List.length_map, List.length_map] at this
    rw [this]
    rfl
  have hr2 := hr.1.2
  rw [hl] at hr2
  rcases hr2 with ⟨rfl, h0⟩ | ⟨gb, cap, cur, rfl, _⟩
  · cases h0
  · exact ⟨⟨_, _, rfl⟩, g⟩

set_option maxRecDepth 100000 in
set_option maxHeartbeats 4000000 in
theorem known_any (w : World) : Calls Tryd.prog 10 #[] w fun e w' => e = .returned (.bool true) ∧ Chg (fun _ => False) w w' := by
  have KM := hide (kmem_mk w)
  go_enter Tryd.func10, Tryd.ntmps10
  go_wp2_with fail
  generalize ((((((w.alloc (.cells #[.slice none 0 0, .int .i64 0] 73)).alloc (.cells #[.slice none 0 0, .int .i64 0, .int .i64 0, .slice none 0 0] 35)).alloc (.cells #[.slice (some ⟨w.heap.size, 0, none⟩) 1 1, .int .i64 1, .int .i64 1, .slice (some ⟨w.heap.size + 1, 0, none⟩) 1 1] 35)).alloc (.cells #[.slice none 0 0, .int .i64 1, .int .i64 2, .slice none 0 0, .slice (some ⟨w.heap.size, 0, none⟩) 1 1, .int .i64 1, .int .i64 1, .slice (some ⟨w.heap.size + 1, 0, none⟩) 1 1] 35)).alloc (.cells #[.slice none 0 0, .int .i64 1, .int .i64 0, .slice (some ⟨w.heap.size + 1 + 1 + 1, 0, none⟩) 2 2] 35)).alloc (.cells #[.int .i64 1, .int .i64 0] 3)) = w1 at *
  obtain ⟨S, hS⟩ : ∃ S, w.heap.size = S := ⟨_, rfl⟩
  have HS := hide hS
  rw [hS] at KM
  try rw [hS]
  clear hS
  have AT := known_at (kmem_tv KM.out.1) (kmem_il KM.out.1)
  refine AT.mono ?_
  clear AT
  rintro e w2 ⟨⟨va, vb, vc, vd, la, lc, rfl⟩, g2⟩
  have A1 := al w2 (.cells #[.slice va 0 vb, .int .i64 0, .int .i64 0, .slice vc 0 vd] 35)
  have A2 := al (w2.alloc (.cells #[.slice va 0 vb, .int .i64 0, .int .i64 0, .slice vc 0 vd] 35)) (.cells #[.int .i64 1, .int .i64 0] 3)
  have B3 := hide (A2.blk (fun h => h) (blk_new w2 (.cells #[.slice va 0 vb, .int .i64 0, .int .i64 0, .slice vc 0 vd] 35)))
  have B5 := blk_new (w2.alloc (.cells #[.slice va 0 vb, .int .i64 0, .int .i64 0, .slice vc 0 vd] 35)) (.cells #[.int .i64 1, .int .i64 0] 3)
  rw [World.size_alloc] at B5
  have B6 := hide B5
  have KM3 := hide (kmem_chg (kmem_chg KM.out.1 g2) (A1.trans A2))
  have G3 := hide ((KM.out.2.trans g2).trans (A1.trans A2))
  clear KM g2 A1 A2 B5
  go_wp2_with fail
  generalize ((w2.alloc (.cells #[.slice va 0 vb, .int .i64 0, .int .i64 0, .slice vc 0 vd] 35)).alloc (.cells #[.int .i64 1, .int .i64 0] 3)) = w3 at *
  refine (known_text B6.out).mono ?_
  rintro e w4 ⟨rfl, g4⟩
  have KM4 := hide (kmem_chg KM3.out g4)
  have G4 := hide (G3.out.trans g4)
  have h4 := KM4.out.2.2.2.2.1
  have c0 := blk_cell h4 0
  have c1 := blk_cell h4 1
  have c2 := blk_cell h4 2
  have c3 := blk_cell h4 3
  simp only [List.getElem?_toArray, List.getElem?_cons_zero, List.getElem?_cons_succ] at c0 c1 c2 c3
  clear h4 B3 B6 KM3 G3 g4
  go_wp2_with fail
  refine (known_all (kmem_tv KM4.out)).mono ?_
  rintro e w5 ⟨⟨ra, rc, rfl⟩, g5⟩
  have G5 := hide (G4.out.trans g5)
  clear c0 c1 c2 c3 g5 KM4 G4
  go_wp2_with fail
  go_ret
  exact ⟨by simp, G5.out⟩
end Go.Proofs.YtnpcapdlgcaniaaDoor
