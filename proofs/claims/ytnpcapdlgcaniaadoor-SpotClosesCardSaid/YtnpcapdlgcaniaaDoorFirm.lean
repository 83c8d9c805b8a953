/- A loop over an iterator that writes blocks of its own while it tells. -/
import Derived.Test.YtnpcapdlgcaniaaDoorPlaces
namespace Go.Proofs.YtnpcapdlgcaniaaDoor
open Go.RowKit Go.Shelf
attribute [local go_sem] Oper.semAt_some
set_option linter.unusedVariables false
set_option linter.unusedSimpArgs false

/-- what lies from block B on does not touch it -/
def Firm {β : Type} (B : Nat) (I : β → World → Prop) : Prop := ∀ s X Y, I s X → Chg (fun k => B ≤ k) X Y → I s Y
/-- what such an iterator's yield is asked -/
def AsksF {α : Type} (F : Fence) (m : Nat) (P : Program) (l : Nat) (encs : α → Array Value) (Kp : World → World → Prop) (N : Nat) (J Jx : List α → World → Prop) : Prop :=
  ∀ pre x W, J pre W → pre.length < N → YieldAt F m P l (encs x) W fun e W' =>
    (e = .returned (.bool true) ∧ J (pre ++ [x]) W' ∧ Kp W W') ∨ (e = .returned (.bool false) ∧ Jx (pre ++ [x]) W')
/-- such an iterator -/
def TellsF {α : Type} (F : Fence) (n : Nat) (P : Program) (gf : Nat) (lb : Array Value) (encs : α → Array Value) (Kp : World → World → Prop) (S Sp : List α → Prop) (N : Nat) (w : World) : Prop :=
  ∀ (l : Nat) (J Jx : List α → World → Prop) (W : World), Chg (fun _ => False) w W → Firm W.heap.size J → AsksF F (n - 1) P l encs Kp N J Jx → J [] W →
    CallsIn F n P gf (#[.func (.yield l) #[] #[]] ++ lb) W fun e W' => (∃ v, e = .returned v) ∧ ((∃ xs, S xs ∧ J xs W') ∨ (∃ pre, Sp pre ∧ Jx pre W'))

variable {F : Fence} {n : Nat} {P : Program}
theorem wpIn_range_firm {α : Type} {g : Operand} {ps : Array Tmp} {assign body : Code} {Q : Exit → Act → World → Prop} {a : Act} {w : World}
    (hro : F.round = none) (h1 : 1 ≤ n) {gf : Nat} {lb : Array Value} (hg : a.eval g = .func (.func gf) #[] lb) (hFg : F.fn gf) (eg : ∀ args w, (callFunc gf args).run P w = .ok (.enter gf args) w)
    {encs : α → Array Value} {Kp : World → World → Prop} {S Sp : List α → Prop} {N : Nat} (hit : TellsF F (n - 1) P gf lb encs Kp S Sp N w)
    (hKt : ∀ {A B C : World}, Kp A B → Kp B C → Kp A C) (hKb : ∀ (W : World) (l : Nat) (o o' : Obj), w.heap.size ≤ l → W.heap[l]? = some o → o.isCells = false → Kp W (W.putObj l o')) (hps : ∀ x, (encs x).size = ps.size)
    (I : List α → World → Prop) (Ix : Code → List α → World → Prop) (hI : OwnFrom w.heap.size I) (hIF : Firm (w.heap.size + 2) I) (hIx : ∀ c, OwnFrom w.heap.size (Ix c)) (h0 : I [] w)
    (hround : ∀ (l : Nat) (pre : List α) (x : α) (W : World), w.heap.size < l → l < W.heap.size → I pre W → pre.length < N →
      assign.wpIn (F.inRound l) (n - 1 - 1) P (Exit.then (fun a1 W1 => KeepsFrom w.heap.size W W1 ∧ Kp W W1 ∧ ∀ o o', W1.heap[l]? = some o → o.isCells = false →
        body.wpIn (F.inRound l) (n - 1 - 1) P (ownPostG w.heap.size Kp I Ix (pre ++ [x]) (W1.putObj l o')) a1 (W1.putObj l o')) (fun _ _ _ => False))
        { tmps := (ps.zip (encs x)).foldl (fun t (p, v) => t.setIfInBounds p v) a.tmps, defers := [] } W)
    (hdone : ∀ (D : Nat) (xs : List α) (W : World), w.heap.size ≤ D → S xs → I xs W → W.heap[D]? = some (.deferred (some [])) → Q .normal { a with defers := { target := .collected D, args := #[] } :: a.defers } W)
    (hstop : ∀ (D : Nat) (c : Code) (pre : List α) (W : World), w.heap.size ≤ D → Sp pre → Ix c pre W → W.heap[D]? = some (.deferred (some [])) → c.wpIn F n P Q { a with defers := { target := .collected D, args := #[] } :: a.defers } W) :
    (Code.rangeFunc g ps assign body).wpIn F n P Q a w := by
  apply wpIn_rangeFunc
  intro fn hfn
  rw [hro]
  -- the record, by what turns in it
  let rec' : LoopState → Option Code → Obj := fun st pe => .loop { state := st, pending := pe, fn := fn, tmps := a.tmps, params := ps, assign := assign, body := body, defers := w.heap.size }
  have hE := run_enterLoop_outer (P := P) (w := w) fn a.tmps ps assign body
  have A2 : Chg (fun _ => False) w ((w.alloc (.deferred (some []))).alloc (rec' .ready none)) := (al w _).alloc _
  have A3 : ((w.alloc (.deferred (some []))).alloc (rec' .ready none)).heap[w.heap.size]? = some (.deferred (some [])) := (al _ _).blk (fun h => h) (World.alloc_heap_new w _)
  have A4 : ((w.alloc (.deferred (some []))).alloc (rec' .ready none)).heap[w.heap.size + 1]? = some (rec' .ready none) := by
    have := World.alloc_heap_new (w.alloc (.deferred (some []))) (rec' .ready none)
    rwa [World.size_alloc] at this
  have A5 : I [] ((w.alloc (.deferred (some []))).alloc (rec' .ready none)) := hI.alloc _ (hI.alloc _ h0)
  refine ⟨w.heap.size + 1, _, (w.alloc (.deferred (some []))).alloc (rec' .ready none), { target := .fn (.func gf) lb, args := #[.func (.yield (w.heap.size + 1)) #[] #[]] }, (w.alloc (.deferred (some []))).alloc (rec' .ready none), gf, #[.func (.yield (w.heap.size + 1)) #[] #[]] ++ lb, (w.alloc (.deferred (some []))).alloc (rec' .ready none), hE, ?_, fun f' hf' => ?_, ?_, fun _ => h1, ?_⟩
  · simp only [resolve, hg]; simp [go_sem]
  · simp [Target.leads] at hf'; subst hf'; exact hFg
  · simp [invoke, go_sem, eg]
  · clear hE
    change CallsIn F (n - 1) P gf _ ((w.alloc (.deferred (some []))).alloc (rec' .ready none)) _
    generalize hW0 : (w.alloc (.deferred (some []))).alloc (rec' .ready none) = W0 at *
    -- a block that is no cells stays through what turns another one alone
    have stay : ∀ {X Y : World} {row : Option Nat}, X.grownBy Y row → (∀ r, row = some r → w.heap.size + 1 < r) → ∀ {k : Nat} {o : Obj}, k ≤ w.heap.size + 1 → X.heap[k]? = some o → Y.heap[k]? = some o := fun gr hr k o hk ho =>
      (gr.block k (Array.getElem?_eq_some_iff.1 ho).1 (fun e => by have := hr k e.symm; omega)).trans ho
    have put1 : ∀ {X : World} {k : Nat} {o o' : Obj}, X.heap[k]? = some o → (X.putObj k o').heap[k]? = some o' := fun h => World.putObj_heap_same (Array.getElem?_eq_some_iff.1 h).1
    refine (hit (w.heap.size + 1) (fun pre W => I pre W ∧ W.heap[w.heap.size + 1]? = some (rec' .ready none) ∧ W.heap[w.heap.size]? = some (.deferred (some [])))
      (fun pre W => ∃ c, Ix c pre W ∧ W.heap[w.heap.size + 1]? = some (rec' .done (some c)) ∧ W.heap[w.heap.size]? = some (.deferred (some []))) W0 A2 ?_ ?_ ⟨A5, A4, A3⟩).mono ?_
    · have hsz : W0.heap.size = w.heap.size + 2 := by rw [← hW0]; simp
      exact fun s X Y ⟨hs, hl, hk⟩ gr => ⟨hIF s X Y hs (by rw [hsz] at gr; exact gr), gr.blk (by omega) hl, gr.blk (by omega) hk⟩
    · rintro pre x W ⟨hi, hl, hk⟩ hlen
      have hlt : w.heap.size + 1 < W.heap.size := (Array.getElem?_eq_some_iff.1 hl).1
      refine ⟨fn, _, assign, body, run_yield (P := P) (args := encs x) hl (hps x), roundIn_of_wpIn hfn ?_⟩
      refine wpIn_mono (hround (w.heap.size + 1) pre x W (Nat.lt_succ_self _) hlt hi hlen) ?_
      intro e a1 W1 hp
      cases e with
      | normal =>
        obtain ⟨k1, p1, hb⟩ := hp
        have l1 := k1.same _ _ (Nat.le_succ _) hl rfl
        have d1 := k1.same _ _ (Nat.le_refl _) hk rfl
        refine ⟨_, run_beginRound l1 rfl, ?_⟩
        change body.wpIn _ _ _ _ a1 (W1.putObj (w.heap.size + 1) (rec' .busy none))
        have l2 := put1 (o' := rec' .busy none) l1
        have d2 := (show (W1.putObj (w.heap.size + 1) (rec' .busy none)).heap[w.heap.size]? = _ from (World.putObj_heap_other (by omega)).trans d1)
        have p2 : Kp W (W1.putObj (w.heap.size + 1) (rec' .busy none)) := hKt p1 (hKb _ _ _ _ (Nat.le_succ _) l1 rfl)
        refine wpIn_mono (hb _ (rec' .busy none) l1 rfl) ?_
        generalize W1.putObj (w.heap.size + 1) (rec' .busy none) = W2 at *
        -- the round's end
        have fin : ∀ (jump : Option Code) (W3 : World), KeepsFrom w.heap.size W2 W3 →
            (Instr.endRound (w.heap.size + 1) jump).run P W3 = .ok (.bool jump.isNone) (W3.putObj (w.heap.size + 1) (rec' (if jump.isNone then .ready else .done) jump)) ∧
            W3.heap[w.heap.size + 1]? = some (rec' .busy none) ∧ (W3.putObj (w.heap.size + 1) (rec' (if jump.isNone then .ready else .done) jump)).heap[w.heap.size + 1]? = some (rec' (if jump.isNone then .ready else .done) jump) ∧
            (W3.putObj (w.heap.size + 1) (rec' (if jump.isNone then .ready else .done) jump)).heap[w.heap.size]? = some (.deferred (some [])) := fun jump W3 k3 => by
          have l3 := k3.same _ _ (Nat.le_succ _) l2 rfl
          exact ⟨run_endRound (P := P) jump l3, l3, put1 l3, (World.putObj_heap_other (by omega)).trans (k3.same _ _ (Nat.le_refl _) d2 rfl)⟩
        intro e2 a3 W3 hp3
        cases e2 with
        | normal =>
          obtain ⟨k3, p3, i3⟩ := hp3
          obtain ⟨hr, l3, l4, d4⟩ := fin none W3 k3
          exact ⟨_, _, hr, .inl ⟨rfl, ⟨hI.putObj _ i3 (Nat.le_succ _) l3 rfl, l4, d4⟩, hKt (hKt p2 p3) (hKb _ _ _ _ (Nat.le_succ _) l3 rfl)⟩⟩
        | ret =>
          obtain ⟨hr, l3, l4, d4⟩ := fin (some .ret) W3 hp3.1
          exact ⟨_, _, hr, .inr ⟨rfl, _, (hIx _).putObj _ hp3.2 (Nat.le_succ _) l3 rfl, l4, d4⟩⟩
        | exit id =>
          obtain ⟨hr, l3, l4, d4⟩ := fin (some (.exit id)) W3 hp3.1
          exact ⟨_, _, hr, .inr ⟨rfl, _, (hIx _).putObj _ hp3.2 (Nat.le_succ _) l3 rfl, l4, d4⟩⟩
        | goto t =>
          obtain ⟨hr, l3, l4, d4⟩ := fin (some (.goto t)) W3 hp3.1
          exact ⟨_, _, hr, .inr ⟨rfl, _, (hIx _).putObj _ hp3.2 (Nat.le_succ _) l3 rfl, l4, d4⟩⟩
        | panic c => exact hp3.elim
        | outgrown => exact hp3.elim
      | _ => exact hp.elim
    · rintro e W2 ⟨⟨v, rfl⟩, (⟨xs, hS, hi, hl, hk⟩ | ⟨pre, hSp, c, hi, hl, hk⟩)⟩
      · exact ⟨_, _, run_endLoop (P := P) hl (fun e => by cases e), hdone _ xs _ (Nat.le_refl _) hS (hI.putObj _ hi (Nat.le_succ _) hl rfl) ((World.putObj_heap_other (by omega)).trans hk)⟩
      · exact ⟨_, _, run_endLoop (P := P) hl (fun e => by cases e), hstop _ c pre _ (Nat.le_refl _) hSp ((hIx c).putObj _ hi (Nat.le_succ _) hl rfl) ((World.putObj_heap_other (by omega)).trans hk)⟩
end Go.Proofs.YtnpcapdlgcaniaaDoor
