/- lex.Print: tokens' texts, a blank between. -/
import Derived.Test.YtiommimbnegplaaJoinLaw
import Derived.Test.YtiommimbnegplaaWalkSplits
namespace Go.Proofs.Ytiommimbnegplaa
open Go.RowKit
set_option linter.unusedVariables false
theorem info9 : (Try.prog.info? 9).map (fun i => (i.zero, i.size, i.bytes)) = some (some (.string ⟨#[]⟩), 1, 16) := by kernel_rfl

theorem print_zero (a : Option Addr) (cap : Nat) (w : World) :
    Calls Try.prog 29 #[.slice a 0 cap] w fun e w' => e = .returned (.string (joined [])) ∧ Below w.heap.size w w' := by
  have js := hide (fun w => Try.strings_Join_none none 0 ⟨#[32]⟩ w)
  go_enter Try.func29, Try.ntmps29
  go_wp2_with fail
  refine wp_loop_rounds 1 ?_
  rw [rounds_succ]
  go_wp2_with fail
  refine (js.out _).mono ?_
  rintro e w' ⟨rfl, rfl⟩
  go_wp2_with fail
  go_ret
  exact ⟨rfl, Below.refl _ _⟩

set_option maxRecDepth 100000 in
set_option maxHeartbeats 2000000 in
theorem print_row (g cap : Nat) (ts : List Tok) (hn : ts.length ≤ 20000) (hne : ts ≠ []) (hj : (joined ts).size ≤ 1000000) (w : World) (hg : g < w.heap.size) (hr : TokRow w g ts) :
    Calls Try.prog 29 #[.slice (some ⟨g, 0, none⟩) ts.length cap] w fun e w' => e = .returned (.string (joined ts)) ∧ Below w.heap.size w w' := by
  obtain ⟨i0, hi0, hz0, hz1, hz2⟩ := info_parts info9
  have HR := hide hr
  have HJ := hide hj
  have hpos : 0 < ts.length := List.length_pos_iff.2 hne
  clear hr hj hne
  go_enter Try.func29, Try.ntmps29
  go_wp2_with fail
  go_loopw [3, 8] (fun l i wr => ∃ (k : Nat) (v : Value), l = v ∧ k ≤ ts.length ∧ i = .int .i64 k ∧ Hid (wr.ownsRow w.heap.size 9 1 v k ((ts.take k).map fun t => .string t.2.1)) ∧ Hid (Below w.heap.size w wr)) (fun _ i _ => ts.length - (intOf i).toNat)
  case atStart => exact ⟨0, .slice none 0 0, rfl, Nat.zero_le _, rfl, World.ownsRow_nil _ _ _ _, Below.refl _ _⟩
  case round =>
    obtain ⟨k, v, rfl, hk, rfl, hown, hB⟩ := hrel
    by_cases hlt : k < ts.length
    · have hltI : (k : Int) < (ts.length : Int) := by omega
      obtain ⟨r0, r1, r2⟩ := HR.out k hlt
      have R0 := (hB.out.cell (p := ⟨g, k * 3, none⟩) hg).trans r0
      have R1 := (hB.out.cell (p := ⟨g, k * 3 + 1, none⟩) hg).trans r1
      have R2 := (hB.out.cell (p := ⟨g, k * 3 + 2, none⟩) hg).trans r2
      have hsz := hB.out.size
      have hnext : Hid ((ts.take (k + 1)).map (fun t => Value.string t.2.1) = (ts.take k).map (fun t => Value.string t.2.1) ++ [.string ts[k].2.1]) := by
        unfold Hid
        rw [List.take_succ_eq_append_getElem hlt, List.map_append]
        rfl
      clear r0 r1 r2
      generalize ts[k].1 = t0 at *
      generalize ts[k].2.1 = t1 at *
      generalize (ts[k].2.2 : Int) = t2 at *
      have hnb : ((wr.alloc (Obj.cells #[.int .i64 t0, .string t1, .int .i64 t2] 46)).alloc (Obj.cells #[.string t1] 9)).heap[wr.heap.size + 1]? = some (Obj.cells #[.string t1] 9) := by
        have := heap_alloc_new (wr.alloc (Obj.cells #[.int .i64 t0, .string t1, .int .i64 t2] 46)) (Obj.cells #[.string t1] 9)
        simpa using this
      have HN := hide (World.news_of_block (cs := #[.string t1]) (t := 9) (fr := (0, 0)) hnb)
      clear hnb
      go_wp2_with (at_builtin; refine wpList_append_own _ rfl _ _ 55 rfl w.heap.size 9 i0 (.string ⟨#[]⟩) 1 16 Try.underlying55 hi0 hz0 hz1 hz2 rfl (by decide) _ k ((ts.take k).map fun t => .string t.2.1) rfl ((hown.out.alloc _).alloc _) ⟨wr.heap.size + 1, 0, none⟩ 1 1 [.string t1] rfl rfl HN.out (by simp [Value.oneCell']) (by simp [maxLen]; omega) (by omega) (by simp; omega) ?_; intro v' w1 hown1 hgrow _)
      have RB : Hid (Below w.heap.size w w1) := ((hB.out.alloc hsz _).alloc (by simp; omega) _).grown hgrow (by simp; omega) (fun r e => (hown.out.lt _ e).1)
      have RO := hide hown1
      clear hown1 hgrow HN
      go_wp2_with fail
      go_roundw
      case rel => exact ⟨k + 1, v', rfl, by omega, by go_num, by
          unfold Hid
          rw [hnext.out]
          exact RO.out, RB⟩
      case measure => simp [intOf]; omega
    · have hkn : k = ts.length := by omega
      subst hkn
      obtain ⟨h1, h2⟩ := id hown.out
      rcases h2 with ⟨_, h3⟩ | ⟨gg, cc, cur, rfl, h3⟩
      · omega
      · have hcap : (ts.map (·.2.1)).length ≤ cc := by rw [List.length_map]; exact h3.2.2.1
        have hlg := (hown.out.lt gg rfl).2
        have hcs : ∀ (j : Nat) x, (ts.map (·.2.1))[j]? = some x → wr.cell? ⟨gg, 0 + j, none⟩ = some (.string x) := by
          intro j x hx
          have hadd : (⟨gg, 0, none⟩ : Addr).add j = ⟨gg, j, none⟩ := by unfold Addr.add; split <;> simp_all
          rw [Nat.zero_add, ← hadd]
          refine hown.out.cells (g := gg) rfl j (.string x) ?_
          rw [List.take_length]
          simp only [List.getElem?_map, Option.map_eq_some_iff] at hx ⊢
          obtain ⟨t, ht, rfl⟩ := hx
          exact ⟨t, ht, rfl⟩
        have hlen : (Lib.join ((ts.map (·.2.1)).map (·.data.toList)) (⟨#[32]⟩ : ByteArray).data.toList).length ≤ 140737488355328 := by
          have hh := HJ.out
          have he : (Lib.join ((ts.map (·.2.1)).map (·.data.toList)) (⟨#[32]⟩ : ByteArray).data.toList).length = (joined ts).size := by
            rw [List.map_map]
            simp [joined, ByteArray.size]
            rfl
          omega
        have js0 := Try.strings_Join gg 0 cc (ts.map (·.2.1)) ⟨#[32]⟩ wr hcs hlg (by rw [List.length_map]; omega) hcap hlen
        rw [List.length_map, List.map_map] at js0
        have js := hide js0
        clear js0 hcs hlen hcap h1 h3 hown
        go_wp2_with fail
        refine js.out.mono ?_
        rintro e w2 ⟨rfl, h2⟩
        have HB := hide (hB.out.trans (h2.mono hB.out.size))
        clear h2
        go_wp2_with fail
        go_ret
        exact ⟨rfl, HB.out⟩

theorem print_told (v : Value) (ts : List Tok) (hn : ts.length ≤ 20000) (hj : (joined ts).size ≤ 1000000) (w : World) (h : IsToks w v ts) :
    Calls Try.prog 29 #[v] w fun e w' => e = .returned (.string (joined ts)) ∧ Below w.heap.size w w' := by
  obtain ⟨a, cap, rfl, h1⟩ := h
  by_cases hne : ts = []
  · subst hne
    exact print_zero a cap w
  · rcases h1 with h1 | ⟨g, rfl, hg, hr⟩
    · exact absurd h1 hne
    · exact print_row g cap ts hn hne hj w hg hr

theorem tailJ_len (s : ByteArray) : ∀ f k b, k ≤ s.size → (tailJ (lexG s f k b).1).length ≤ 2 * (s.size - k) := by
  intro f
  induction f with
  | zero => intro k b h; simp [lexG, tailJ, Lib.joinTail]
  | succ f ih =>
    intro k b h
    obtain ⟨a, ha⟩ : ∃ a, k + skipLen (s.data.toList.drop k) b = a := ⟨_, rfl⟩
    by_cases h1 : a = s.size
    · rw [lexG_end s f k b a ha h1]; simp [tailJ, Lib.joinTail]
    · by_cases h2 : (firstOf (s.data.toList.drop a)).2 = 0
      · rw [lexG_form s f k b a ha h1 h2]; simp [tailJ, Lib.joinTail]
      · by_cases h3 : tooLong (firstOf (s.data.toList.drop a)) = true
        · rw [lexG_long s f k b a _ ha h1 rfl h2 h3]; simp [tailJ, Lib.joinTail]
        · have h3' : tooLong (firstOf (s.data.toList.drop a)) = false := by simpa using h3
          rw [lexG_tok s f k b a _ ha h1 rfl h2 h3']
          have hal : a ≤ s.size := by
            have := skipLen_le (s.data.toList.drop k) b
            simp at this
            omega
          have hn := firstOf_le (s.data.toList.drop a)
          simp only [List.length_drop, Array.length_toList] at hn
          have hn' : (firstOf (s.data.toList.drop a)).2 ≤ s.size - a := hn
          generalize (firstOf (s.data.toList.drop a)).2 = n at *
          have i1 := ih (a + n) false (by omega)
          rw [tailJ_cons]
          simp only [List.length_cons, List.length_append]
          have hz : (s.extract a (a + n)).data.toList.length = n := by
            rw [ext_list s a n (by omega), List.length_take]
            simp
            omega
          rw [hz]
          omega

theorem joined_le (ts : List Tok) : (joined ts).size ≤ (tailJ ts).length := by
  cases ts with
  | nil => exact Nat.zero_le _
  | cons t ts =>
    rw [tailJ_cons]
    have : (joined (t :: ts)).size = (t.2.1.data.toList ++ tailJ ts).length := by
      simp only [joined, List.map_cons, Lib.join_cons, ByteArray.size]
      rfl
    rw [this, List.length_cons]
    omega

/-- what LexBack leans on -/
theorem back_told (s : ByteArray) (ts : List Tok) (h : lexG s (s.size + 1) 0 false = (ts, none)) :
    ts.length ≤ s.size ∧ (joined ts).size ≤ 2 * s.size ∧ (∀ t ∈ ts, TokOk s t) ∧ ∃ us, lexG (joined ts) ((joined ts).size + 1) 0 false = (us, none) ∧ us.length = ts.length ∧ ∀ i (h1 : i < us.length) (h2 : i < ts.length), us[i].1 = ts[i].1 ∧ us[i].2.1 = ts[i].2.1 := by
  have hl := lexG_len s (s.size + 1) 0 false (Nat.zero_le _)
  have ht := tailJ_len s (s.size + 1) 0 false (Nat.zero_le _)
  have hg := lexG_good s (s.size + 1) 0 false (Nat.zero_le _)
  rw [h] at hl ht hg
  have hok : ∀ t ∈ ts, TokOk s t := fun t hx => hg t hx rfl
  have hj := joined_le ts
  have hlow : ts.length ≤ (joined ts).size := by
    clear hl ht hg hj h
    have hpos : ∀ t ∈ ts, 0 < t.2.1.data.toList.length := fun t hx => List.length_pos_iff.2 (hok t hx).1.1
    have htail : ∀ l : List Tok, (∀ t ∈ l, 0 < t.2.1.data.toList.length) → l.length ≤ (tailJ l).length := by
      intro l
      induction l with
      | nil => intro _; simp
      | cons a l ih =>
        intro hp
        have := ih (fun t ht => hp t (by simp [ht]))
        rw [tailJ_cons]
        simp only [List.length_cons, List.length_append]
        omega
    cases ts with
    | nil => simp
    | cons t ts =>
      have h1 := htail ts (fun x hx => hpos x (by simp [hx]))
      have h2 := hpos t (by simp)
      have : (joined (t :: ts)).size = (t.2.1.data.toList ++ tailJ ts).length := by
        simp only [joined, List.map_cons, Lib.join_cons, ByteArray.size]
        rfl
      rw [this, List.length_append, List.length_cons]
      omega
  refine ⟨by simpa using hl, by simp at ht; omega, hok, ?_⟩
  obtain ⟨us, hu, hm⟩ := lexG_joined ts (fun t hx => (hok t hx).1) ((joined ts).size + 1) (by omega)
  have hul : us.length = ts.length := by have := congrArg List.length hm; simpa using this
  refine ⟨us, hu, hul, fun i h1 h2 => ?_⟩
  have h3 : (us.map kt)[i]'(by simpa using h1) = (ts.map kt)[i]'(by simpa using h2) := by simp only [hm]
  simp only [List.getElem_map, kt] at h3
  exact ⟨(Prod.mk.inj h3).1, (Prod.mk.inj h3).2⟩
end Go.Proofs.Ytiommimbnegplaa
