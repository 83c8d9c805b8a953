/- lex's readers: Fail, New. -/
import Derived.Test.YtboeeaekhijboaaReadD
import Derived.Deep.AppendLies
import Derived.Lib.SliceRun
namespace Go.Proofs.Ytboeeaekhijboaa
open Go.RowKit
set_option linter.unusedVariables false
set_option linter.unusedSimpArgs false

theorem four_fin {w W : World} {A : Nat} {x y z t : Value} {T : TypeId} (g : Chg (fun _ => False) w W) (hA : W.heap[A]? = some (.cells #[x, y, z, t] T)) (hw : w.heap.size ≤ A) (u0 u1 u2 u3 : Value) :
    ((((W.setCell ⟨A, 0, none⟩ u0).setCell ⟨A, 1, none⟩ u1).setCell ⟨A, 2, none⟩ u2).setCell ⟨A, 3, none⟩ u3).heap[A]? = some (.cells #[u0, u1, u2, u3] T) ∧ Chg (fun _ => False) w ((((W.setCell ⟨A, 0, none⟩ u0).setCell ⟨A, 1, none⟩ u1).setCell ⟨A, 2, none⟩ u2).setCell ⟨A, 3, none⟩ u3) := by
  have h0 : Chg (fun b => b = A) W W := Chg.refl _ _
  have h1 := h0.setCell (p := ⟨A, 0, none⟩) (Or.inl rfl) u0
  have h2 := h1.setCell (p := ⟨A, 1, none⟩) (Or.inl rfl) u1
  have h3 := h2.setCell (p := ⟨A, 2, none⟩) (Or.inl rfl) u2
  have h4 := h3.setCell (p := ⟨A, 3, none⟩) (Or.inl rfl) u3
  refine ⟨blk_set (blk_set (blk_set (blk_set hA 0 u0) 1 u1) 2 u2) 3 u3, ?_⟩
  have hf : Chg (fun b => b = A) w _ := (Chg.none g).trans h4
  exact hf.mono (fun b hb h => by omega)

theorem clone_none (cap : Nat) (w : World) :
    Calls Try.prog 90 #[.slice none 0 cap] w fun e w' => e = .returned (.slice none 0 0) ∧ Chg (fun _ => False) w w' := by
  have he : (binOp .eql 101 (.slice none 0 cap) (.slice none 0 0)).run Try.prog w = .ok (.bool true) w := by
    rw [Lib.run_eql_slice_nil w 101 75 _ _ _ _ _ Try.underlying101]; rfl
  go_enter Try.func90, Try.ntmps90
  go_wp2_with fail
  go_ret
  exact ⟨rfl, Chg.refl _ _⟩

theorem cells_at (ts : List Tok) (j : Nat) (u : Value) (h : (cellsOf ts)[j]? = some u) : ∃ i, ∃ hi : i < ts.length, (j = i * 3 ∧ u = .int .i64 ts[i].1) ∨ (j = i * 3 + 1 ∧ u = .string ts[i].2.1) ∨ (j = i * 3 + 2 ∧ u = .int .i64 (ts[i].2.2 : Int)) := by
  have hj : j < ts.length * 3 := by
    have := (List.getElem?_eq_some_iff.1 h).1
    rw [cellsOf_len] at this
    exact this
  have hi : j / 3 < ts.length := by omega
  obtain ⟨a, b, c⟩ := cellsOf_get ts (j / 3) hi
  refine ⟨j / 3, hi, ?_⟩
  have hr : j % 3 = 0 ∨ j % 3 = 1 ∨ j % 3 = 2 := by omega
  rcases hr with hr | hr | hr
  · rw [show j / 3 * 3 = j by omega] at a
    exact Or.inl ⟨by omega, Option.some.inj (h.symm.trans a)⟩
  · rw [show j / 3 * 3 + 1 = j by omega] at b
    exact Or.inr (Or.inl ⟨by omega, Option.some.inj (h.symm.trans b)⟩)
  · rw [show j / 3 * 3 + 2 = j by omega] at c
    exact Or.inr (Or.inr ⟨by omega, Option.some.inj (h.symm.trans c)⟩)

theorem cells_one (ts : List Tok) : ∀ u ∈ cellsOf ts, u.oneCell' = true := by
  intro u hu
  obtain ⟨j, hj⟩ := List.mem_iff_getElem?.1 hu
  obtain ⟨i, hi, ⟨_, rfl⟩ | ⟨_, rfl⟩ | ⟨_, rfl⟩⟩ := cells_at ts j u hj <;> rfl

theorem add_at (g : Nat) (j : Nat) : (⟨g, 0, none⟩ : Addr).add j = ⟨g, j, none⟩ := by unfold Addr.add; split <;> simp_all

theorem news_row {w : World} {g : Nat} {ts : List Tok} (h : TokRow w g ts) : ∀ j u, (cellsOf ts)[j]? = some u → w.cell? ((⟨g, 0, none⟩ : Addr).add j) = some u := by
  intro j u hu
  rw [add_at]
  obtain ⟨i, hi, ⟨rfl, rfl⟩ | ⟨rfl, rfl⟩ | ⟨rfl, rfl⟩⟩ := cells_at ts j u hu
  · exact (h i hi).1
  · exact (h i hi).2.1
  · exact (h i hi).2.2

theorem own_empty (w : World) (T : TypeId) (n : Nat) : (w.alloc (.cells #[] T)).ownsRow w.heap.size T n (.slice (some ⟨w.heap.size, 0, none⟩) 0 0) 0 [] :=
  ⟨by simp, Or.inr ⟨w.heap.size, 0, #[], rfl, Nat.le_refl _, blk_new w _, Nat.le_refl _, Nat.zero_le _, by simp, by simp⟩⟩

theorem grown_no {w w' : World} {o : Obj} (h : (w.alloc o).grownBy w' (some w.heap.size)) : Chg (fun _ => False) w w' :=
  ((al w o).grown (S := fun _ => False) h (fun r e => Or.inr (by cases e; exact Nat.le_refl _)))

set_option maxRecDepth 100000 in
set_option maxHeartbeats 4000000 in
theorem clone_some (ad : Addr) (cap : Nat) (ts : List Tok) (hl : ts.length ≤ 1000000) (w : World) (hn : ∀ j u, (cellsOf ts)[j]? = some u → (w.alloc (.cells #[] 75)).cell? (ad.add j) = some u) :
    Calls Try.prog 90 #[.slice (some ad) ts.length cap] w fun e w' => (∃ v, e = .returned v ∧ IsToks w' v ts) ∧ Chg (fun _ => False) w w' := by
  have he : (binOp .eql 101 (.slice (some ad) ts.length cap) (.slice none 0 0)).run Try.prog w = .ok (.bool false) w := by
    rw [Lib.run_eql_slice_nil w 101 75 _ _ _ _ _ Try.underlying101]; rfl
  obtain ⟨i0, hi0, hz0, hz1, hz2⟩ := info_parts info75
  have own := hide (own_empty w 75 3)
  have hlen := cellsOf_len ts
  have hone := cells_one ts
  have N := hide hn
  have fin : ∀ v' w1, w1.ownsRow w.heap.size 75 3 v' (0 + ts.length) ([] ++ cellsOf ts) → (w.alloc (.cells #[] 75)).grownBy w1 (some w.heap.size) → IsToks w1 v' ts ∧ Chg (fun _ => False) w w1 := by
    intro v' w1 h1 h2
    rw [Nat.zero_add, List.nil_append] at h1
    exact ⟨isToks_of w1 _ _ v' ts h1, grown_no h2⟩
  have Fin := hide fin
  clear fin hn
  go_enter Try.func90, Try.ntmps90
  go_wp2_with (at_builtin; refine wpList_append_own _ rfl _ _ 101 rfl w.heap.size 75 i0 (.agg #[.int .i64 0, .string ⟨#[]⟩, .int .i64 0]) 3 32 Try.underlying101 hi0 hz0 hz1 hz2 rfl (by decide) _ 0 [] rfl own.out ad ts.length cap (cellsOf ts) rfl hlen N.out hone (by simp [maxLen]; omega) (by omega) (by simp) ?_; intro v' w1 hown1 hgrow _)
  have F := hide (Fin.out v' w1 hown1 hgrow)
  clear hown1 hgrow
  go_wp2_with fail
  go_ret
  exact ⟨⟨v', rfl, F.out.1⟩, F.out.2⟩

theorem clone_any (v : Value) (ts : List Tok) (hl : ts.length ≤ 1000000) (w : World) (hv : IsToks w v ts) :
    Calls Try.prog 90 #[v] w fun e w' => (∃ v, e = .returned v ∧ IsToks w' v ts) ∧ Chg (fun _ => False) w w' := by
  obtain ⟨a, cap, rfl, h⟩ := hv
  cases a with
  | none =>
    have h0 : ts = [] := by
      rcases h with h | ⟨g, hg, _⟩
      · exact h
      · cases hg
    subst h0
    exact (clone_none cap w).mono fun e w' ⟨he, hc⟩ => ⟨⟨_, he, isToks_nil _⟩, hc⟩
  | some ad =>
    refine clone_some ad cap ts hl w ?_
    rcases h with h | ⟨g, hg, hlt, hr⟩
    · subst h
      intro j u hu
      cases hu
    · cases hg
      intro j u hu
      rw [add_at]
      have := news_row hr j u hu
      rw [add_at] at this
      exact (al w _).cell (fun h => h) this

theorem IsToks.tks {w : World} {v : Value} {ts : List Tok} (h : IsToks w v ts) : Tks w w.heap.size v ts := by
  obtain ⟨a, cap, rfl, h⟩ := h
  refine ⟨a, cap, rfl, ?_⟩
  rcases h with h | ⟨g, rfl, hg, hr⟩
  · exact Or.inl h
  · exact Or.inr ⟨g, rfl, hg, hr⟩

theorem new_any (v : Value) (ts : List Tok) (s : ByteArray) (hl : ts.length ≤ 1000000) (w : World) (hv : IsToks w v ts) :
    Calls Try.prog 49 #[v, .string s] w fun e w' => ∃ R v', e = .returned (.pointer (some ⟨R, 0, none⟩)) ∧ w.heap.size ≤ R ∧ Rd w' R 106 v' s 0 ∧ Tks w' R v' ts ∧ Chg (fun _ => False) w w' := by
  have cl := hide (clone_any v ts hl w hv)
  clear hv
  go_enter Try.func49, Try.ntmps49
  go_wp2_with fail
  refine cl.out.mono ?_
  rintro e w1 ⟨⟨v', rfl, h1⟩, g1⟩
  have hr : Rd (w1.alloc (.cells #[v', .string s, .int .i64 0] 106)) w1.heap.size 106 v' s 0 := blk_new w1 _
  have ht := hide (h1.tks.chg (al w1 (.cells #[v', .string s, .int .i64 0] 106)) (fun _ _ h => h))
  have HR := hide hr
  have GG := hide (g1.trans (al w1 (.cells #[v', .string s, .int .i64 0] 106)))
  have hs := g1.size
  obtain ⟨a, cap, rfl, hx⟩ := h1
  clear hr g1 hx
  go_wp2_with fail
  go_ret
  exact ⟨_, _, rfl, hs, HR.out, ht.out, GG.out⟩

set_option maxRecDepth 100000 in
set_option maxHeartbeats 4000000 in
theorem fail_some (R B : Nat) (v : Value) (ts : List Tok) (s : ByteArray) (k : Nat) (code : Int) (hk : k ≤ ts.length) (hl : ts.length ≤ 1000000) (hs : s.size ≤ 1000000) (hat : ∀ t ∈ ts, t.2.2 ≤ s.size) (htx : ∀ t ∈ ts, t.2.1.size ≤ 1000000) (w : World)
    (h : Rd w R 106 v s k) (hv : Tks w B v ts) :
    Calls Try.prog 50 #[.pointer (some ⟨R, 0, none⟩), .int .i64 code] w fun e w' => e = .returned (.agg #[.int .i64 code, .int .i64 (markAt ts s k).1, .int .i64 (markAt ts s k).2, .string (headOf (tokAt ts s k 0).2.1)]) ∧ Chg (fun _ => False) w w' := by
  have hsz : (tokAt ts s k 0).2.1.size ≤ 9223372036854775807 := by
    unfold tokAt
    split
    · exact Nat.zero_le _
    · by_cases h : k + (0 : Int).toNat < ts.length
      · simp only [List.getD_eq_getElem?_getD, List.getElem?_eq_getElem h, Option.getD_some]
        have := htx _ (List.getElem_mem h)
        omega
      · simp only [List.getD_eq_getElem?_getD, List.getElem?_eq_none (Nat.le_of_not_lt h), Option.getD_none]
        exact Nat.zero_le _
  have pl := hide (fun w' h1 h2 => place_some R B v ts s k hk hl hs hat w' h1 h2)
  have pk := hide (fun w' h1 h2 => peek_some R B v ts s k 0 hk hl hs w' h1 h2)
  obtain ⟨t, ht⟩ : ∃ t, t = tokAt ts s k 0 := ⟨_, rfl⟩
  rw [← ht] at hsz pk ⊢
  clear ht
  obtain ⟨t0, t1, t2⟩ := t
  dsimp only at hsz ⊢
  have hd := hide (fun w' => head_any t1 hsz w')
  have etv : tokV (t0, t1, t2) = .agg #[.int .i64 t0, .string t1, .int .i64 (t2 : Int)] := rfl
  rw [etv] at pk
  have hfl := field46_1 (.int .i64 t0) (.string t1) (.int .i64 (t2 : Int))
  have Hh := hide h
  have Hv := hide hv
  clear h hv hat htx etv hsz
  go_enter Try.func50, Try.ntmps50
  go_wp2_with fail
  have g0 := al w (.cells #[.int .i64 0, .int .i64 0, .int .i64 0, .string ⟨#[]⟩] 27)
  refine (pl.out _ (Hh.out.chg g0 (fun h => h)) (Hv.out.chg g0 (fun _ _ h => h))).mono ?_
  rintro e w1 ⟨rfl, g1⟩
  have g01 := g0.trans g1
  have q1 := Hh.out.chg g01 (fun h => h)
  have q2 := Hv.out.chg g01 (fun _ _ h => h)
  have a1 := g1.blk (blk_new w (.cells #[.int .i64 0, .int .i64 0, .int .i64 0, .string ⟨#[]⟩] 27))
  have PK := hide (pk.out w1 q1 q2)
  have A1 := hide a1
  have G01 := hide g01
  clear q1 q2 a1 g01 g0 g1
  go_wp2_with fail
  refine PK.out.mono ?_
  rintro e w2 ⟨rfl, g2⟩
  have A2 := hide (g2.blk A1.out)
  have G2 := hide (G01.out.trans g2)
  clear g2
  go_wp2_with fail
  refine (hd.out _).mono ?_
  rintro e w3 ⟨rfl, rfl⟩
  obtain ⟨A, hA⟩ : ∃ A, A = w.heap.size := ⟨_, rfl⟩
  have lA0 : w.heap.size ≤ A := by omega
  have a2 := A2.out
  rw [← hA] at a2
  have b0 := blk_cell a2 0
  have b1 := blk_cell a2 1
  have b2 := blk_cell a2 2
  have b3 := blk_cell a2 3
  have f0 := blk_free a2 0
  have f1 := blk_free a2 1
  have f2 := blk_free a2 2
  have f3 := blk_free a2 3
  rw [← hA]
  have fin := four_fin G2.out a2 lA0 (.int .i64 code) (.int .i64 (markAt ts s k).1) (.int .i64 (markAt ts s k).2) (.string (headOf t1))
  obtain ⟨aF, gE⟩ := fin
  have GE := hide gE
  clear gE hA A1 A2
  go_wp2_with fail
  generalize (((w2.setCell ⟨A, 0, none⟩ (.int .i64 code)).setCell ⟨A, 1, none⟩ (.int .i64 (markAt ts s k).1)).setCell ⟨A, 2, none⟩ (.int .i64 (markAt ts s k).2)).setCell ⟨A, 3, none⟩ (.string (headOf t1)) = WF at *
  have r0 : WF.cell? ⟨A, 0, none⟩ = some (.int .i64 code) := blk_cell aF 0
  have r1 : WF.cell? ⟨A, 1, none⟩ = some (.int .i64 (markAt ts s k).1) := blk_cell aF 1
  have r2 : WF.cell? ⟨A, 2, none⟩ = some (.int .i64 (markAt ts s k).2) := blk_cell aF 2
  have r3 : WF.cell? ⟨A, 3, none⟩ = some (.string (headOf t1)) := blk_cell aF 3
  exact bodyPost_ret (v := .agg #[.int .i64 code, .int .i64 (markAt ts s k).1, .int .i64 (markAt ts s k).2, .string (headOf t1)]) (by simp [results, Try.results50, go_sem, r0, r1, r2, r3]) rfl ⟨rfl, GE.out⟩

set_option maxRecDepth 100000 in
set_option maxHeartbeats 4000000 in
theorem fail_nil (code : Int) (w : World) :
    Calls Try.prog 50 #[.pointer none, .int .i64 code] w fun e w' => e = .returned (.agg #[.int .i64 code, .int .i64 1, .int .i64 1, .string ⟨#[]⟩]) ∧ Chg (fun _ => False) w w' := by
  have pl := hide (fun w' => place_nil w')
  have pk := hide (fun w' => peek_nil 0 w')
  have hd := hide (fun w' => head_any ⟨#[]⟩ (Nat.zero_le _) w')
  have hh : headOf ⟨#[]⟩ = ⟨#[]⟩ := by kernel_rfl
  rw [hh] at hd
  have etv : tokV (4, ⟨#[]⟩, 0) = .agg #[.int .i64 4, .string ⟨#[]⟩, .int .i64 0] := rfl
  rw [etv] at pk
  have hfl := field46_1 (.int .i64 4) (.string ⟨#[]⟩) (.int .i64 0)
  clear etv hh
  go_enter Try.func50, Try.ntmps50
  go_wp2_with fail
  have g0 := al w (.cells #[.int .i64 0, .int .i64 0, .int .i64 0, .string ⟨#[]⟩] 27)
  refine (pl.out _).mono ?_
  rintro e w1 ⟨rfl, g1⟩
  have A1 := hide (g1.blk (blk_new w (.cells #[.int .i64 0, .int .i64 0, .int .i64 0, .string ⟨#[]⟩] 27)))
  have G01 := hide (g0.trans g1)
  clear g0 g1
  go_wp2_with fail
  refine (pk.out _).mono ?_
  rintro e w2 ⟨rfl, g2⟩
  have A2 := hide (g2.blk A1.out)
  have G2 := hide (G01.out.trans g2)
  clear g2
  go_wp2_with fail
  refine (hd.out _).mono ?_
  rintro e w3 ⟨rfl, rfl⟩
  obtain ⟨A, hA⟩ : ∃ A, A = w.heap.size := ⟨_, rfl⟩
  have lA0 : w.heap.size ≤ A := by omega
  have a2 := A2.out
  rw [← hA] at a2
  have b0 := blk_cell a2 0
  have b1 := blk_cell a2 1
  have b2 := blk_cell a2 2
  have b3 := blk_cell a2 3
  have f0 := blk_free a2 0
  have f1 := blk_free a2 1
  have f2 := blk_free a2 2
  have f3 := blk_free a2 3
  rw [← hA]
  obtain ⟨aF, gE⟩ := four_fin G2.out a2 lA0 (.int .i64 code) (.int .i64 1) (.int .i64 1) (.string ⟨#[]⟩)
  have GE := hide gE
  clear gE hA A1 A2
  go_wp2_with fail
  generalize (((w2.setCell ⟨A, 0, none⟩ (.int .i64 code)).setCell ⟨A, 1, none⟩ (.int .i64 1)).setCell ⟨A, 2, none⟩ (.int .i64 1)).setCell ⟨A, 3, none⟩ (.string ⟨#[]⟩) = WF at *
  have r0 : WF.cell? ⟨A, 0, none⟩ = some (.int .i64 code) := blk_cell aF 0
  have r1 : WF.cell? ⟨A, 1, none⟩ = some (.int .i64 1) := blk_cell aF 1
  have r2 : WF.cell? ⟨A, 2, none⟩ = some (.int .i64 1) := blk_cell aF 2
  have r3 : WF.cell? ⟨A, 3, none⟩ = some (.string ⟨#[]⟩) := blk_cell aF 3
  exact bodyPost_ret (v := .agg #[.int .i64 code, .int .i64 1, .int .i64 1, .string ⟨#[]⟩]) (by simp [results, Try.results50, go_sem, r0, r1, r2, r3]) rfl ⟨rfl, GE.out⟩

end Go.Proofs.Ytboeeaekhijboaa
