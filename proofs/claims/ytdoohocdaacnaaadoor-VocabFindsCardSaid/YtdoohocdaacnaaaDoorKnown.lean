/- The chapter's example. -/
import Derived.Test.YtdoohocdaacnaaaDoorFresh
namespace Go.Proofs.YtdoohocdaacnaaaDoor
open Go.RowKit Go.Maps
set_option linter.unusedVariables false
set_option linter.unusedSimpArgs false

abbrev nat0 : ByteArray := ⟨#[110, 97, 116]⟩
abbrev z0 : ByteArray := ⟨#[122]⟩
abbrev s0 : ByteArray := ⟨#[115]⟩
abbrev z10 : ByteArray := ⟨#[122, 49]⟩
abbrev kcs : List Cn := [(z0, .nil, 0), (s0, .cons .nil 0 .nil, 0)]
theorem known_check : checkT [nat0] kcs = 0 := by kernel_rfl
theorem known_find : findV [nat0] kcs s0 false = (1, 0) := by kernel_rfl
theorem known_try0 : isN [nat0] kcs (tryF z0 0) = true := by kernel_rfl
theorem known_try1 : isN [nat0] kcs (tryF z0 1) = false := by kernel_rfl
theorem known_fresh : freshV z0 1 = (z10, 0) := by kernel_rfl
theorem known_check2 : checkT [nat0] [(nat0, .nil, 0)] = 4 := by kernel_rfl

theorem kid_row (w : World) (a : Option Addr) (c : Nat) (h : Ts w (fun x => x < w.heap.size) (.slice a 0 c) .nil) :
    Ts (w.alloc (.cells #[.slice a 0 c, .int .i64 0] 30)) (fun x => x < (w.alloc (.cells #[.slice a 0 c, .int .i64 0] 30)).heap.size) (.slice (some ⟨w.heap.size, 0, none⟩) 1 1) (.cons .nil 0 .nil) :=
  ⟨_, _, rfl, Or.inr ⟨_, _, rfl, blk_lt (blk_new w _), lies_cons.2 ⟨⟨_, blk_cell (blk_new w _) 0, (h.chg (al w _) (fun _ _ h => h)).up (fun x hx => Nat.lt_of_lt_of_le hx (al w _).size)⟩, blk_cell (blk_new w _) 1, trivial⟩⟩⟩
theorem two_cns (w : World) (a : Option Addr) (c : Nat) (h : Ts w (fun x => x < w.heap.size) (.slice a 1 c) (.cons .nil 0 .nil)) :
    Cns (w.alloc (.cells #[.string z0, .slice none 0 0, .int .i64 0, .string s0, .slice a 1 c, .int .i64 0] 32)) (fun x => x < (w.alloc (.cells #[.string z0, .slice none 0 0, .int .i64 0, .string s0, .slice a 1 c, .int .i64 0] 32)).heap.size) (.slice (some ⟨w.heap.size, 0, none⟩) 2 2) kcs := by
  have hb := blk_new w (.cells #[.string z0, .slice none 0 0, .int .i64 0, .string s0, .slice a 1 c, .int .i64 0] 32)
  refine ⟨fun x hx => ?_, _, _, rfl, Or.inr ⟨_, _, rfl, blk_lt hb, fun i hi => ?_⟩⟩
  · simp only [List.mem_cons, List.not_mem_nil, or_false] at hx
    rcases hx with rfl | rfl
    · exact ⟨by decide, by decide⟩
    · exact ⟨by decide, by decide⟩
  · have hi2 : i = 0 ∨ i = 1 := by simp at hi; omega
    rcases hi2 with rfl | rfl
    · exact ⟨blk_cell hb 0, ⟨_, blk_cell hb 1, Ts.nil _ _⟩, blk_cell hb 2⟩
    · exact ⟨blk_cell hb 3, ⟨_, blk_cell hb 4, (h.chg (al w _) (fun _ _ h => h)).up (fun x hx => Nat.lt_of_lt_of_le hx (al w _).size)⟩, blk_cell hb 5⟩
theorem one_cns (w : World) :
    Cns (w.alloc (.cells #[.string nat0, .slice none 0 0, .int .i64 0] 32)) (fun x => x < (w.alloc (.cells #[.string nat0, .slice none 0 0, .int .i64 0] 32)).heap.size) (.slice (some ⟨w.heap.size, 0, none⟩) 1 1) [(nat0, .nil, 0)] := by
  have hb := blk_new w (.cells #[.string nat0, .slice none 0 0, .int .i64 0] 32)
  refine ⟨fun x hx => ?_, _, _, rfl, Or.inr ⟨_, _, rfl, blk_lt hb, fun i hi => ?_⟩⟩
  · simp only [List.mem_cons, List.not_mem_nil, or_false] at hx
    rcases hx with rfl
    exact ⟨by decide, by decide⟩
  · have hi2 : i = 0 := by simp at hi; omega
    subst hi2
    exact ⟨blk_cell hb 0, ⟨_, blk_cell hb 1, Ts.nil _ _⟩, blk_cell hb 2⟩
theorem one_strs (w : World) (s : ByteArray) (hs : s.size ≤ maxLen) : Strs (w.alloc (.cells #[.string s] 9)) (fun x => x < (w.alloc (.cells #[.string s] 9)).heap.size) (.slice (some ⟨w.heap.size, 0, none⟩) 1 1) [s] :=
  (one_row w s hs).up (fun x hx => by rw [hx]; exact blk_lt (blk_new w _))
theorem Strs.grow {w w' : World} {v : Value} {l : List ByteArray} (h : Strs w (fun x => x < w.heap.size) v l) (g : Chg (fun _ => False) w w') : Strs w' (fun x => x < w'.heap.size) v l :=
  (h.chg g (fun _ _ h => h)).up (fun x hx => Nat.lt_of_lt_of_le hx g.size)
theorem Ts.grow {w w' : World} {v : Value} {l : Fs} (h : Ts w (fun x => x < w.heap.size) v l) (g : Chg (fun _ => False) w w') : Ts w' (fun x => x < w'.heap.size) v l :=
  (h.chg g (fun _ _ h => h)).up (fun x hx => Nat.lt_of_lt_of_le hx g.size)

set_option maxRecDepth 100000 in
set_option maxHeartbeats 8000000 in
theorem known_any (w : World) : Calls Tryd.prog 10 #[] w fun e w' => e = .returned (.bool true) ∧ Chg (fun _ => False) w w' := by
  have ko := hide (fun f hf v b X w hX hv => kindOf_any f hf v b X w hX hv)
  have S1 := hide (one_strs w nat0 (by decide))
  have C1 := hide (al w (.cells #[.string nat0] 9))
  go_enter Tryd.func10, Tryd.ntmps10
  go_wp2_with fail
  generalize w.alloc (.cells #[.string nat0] 9) = w1 at *
  refine (ko.out .nil (by decide) _ 0 (fun x => x < w1.heap.size) w1 (fun x hx => hx) (Ts.nil _ _)).mono ?_
  rintro e w2 ⟨⟨v1, rfl, t1⟩, g2⟩
  have t2 := t1.up (Y := fun x => x < w2.heap.size) (fun x hx => hx.2)
  obtain ⟨a1, c1, rfl, _⟩ := id t2
  have K3 := hide (kid_row w2 a1 c1 t2)
  have S3 := hide (S1.out.grow (g2.alloc (.cells #[.slice a1 0 c1, .int .i64 0] 30)))
  have C3 := hide (C1.out.trans (g2.alloc (.cells #[.slice a1 0 c1, .int .i64 0] 30)))
  clear t1 t2 g2 S1 C1
  simp only [Fs.len]
  go_wp2_with fail
  generalize w2.alloc (.cells #[.slice a1 0 c1, .int .i64 0] 30) = w3 at *
  refine (ko.out _ (by decide) _ 0 (fun x => x < w3.heap.size) w3 (fun x hx => hx) K3.out).mono ?_
  rintro e w4 ⟨⟨v1, rfl, t1⟩, g4⟩
  have t4 := t1.up (Y := fun x => x < w4.heap.size) (fun x hx => hx.2)
  obtain ⟨a4, c4, rfl, _⟩ := id t4
  have N5 := hide (two_cns w4 a4 c4 t4)
  have S5 := hide (S3.out.grow (g4.alloc (.cells #[.string z0, .slice none 0 0, .int .i64 0, .string s0, .slice a4 1 c4, .int .i64 0] 32)))
  have C5 := hide (C3.out.trans (g4.alloc (.cells #[.string z0, .slice none 0 0, .int .i64 0, .string s0, .slice a4 1 c4, .int .i64 0] 32)))
  clear t1 t4 g4 S3 C3 K3 ko
  simp only [Fs.len]
  go_wp2_with fail
  generalize w4.alloc (.cells #[.string z0, .slice none 0 0, .int .i64 0, .string s0, .slice a4 1 c4, .int .i64 0] 32) = w5 at *
  refine (new_any [nat0] kcs _ _ (fun x => x < w5.heap.size) w5 (fun x hx => hx) S5.out N5.out).mono ?_
  rintro e w6 ⟨⟨h, _⟩ | ⟨_, L, b, rfl, hL, hX⟩, g6⟩
  · exact absurd known_check h
  have X6 := hide hX
  have C6 : Hid (w.heap.size ≤ L) := hide (Nat.le_trans C5.out.size hL)
  have G6 := hide (C5.out.trans g6)
  clear hL hX g6 C5 N5 S5
  go_wp2_with fail
  refine (const_any b L [nat0] kcs (by decide) (by decide) s0 (by decide) w6 X6.out).mono ?_
  rw [known_find]
  rintro e w7 ⟨rfl, hX, g7⟩
  have X7 := hide hX
  have G7 : Hid (Chg (fun x => x = b) w w7) := hide (G6.out.none.trans g7)
  clear hX g7 X6 G6
  go_wp2_with fail
  refine (fresh_any b L [nat0] kcs (by decide) (by decide) z0 (by decide) 1 (by decide) known_try1 (fun j hj => by have : j = 0 := by omega
                                                                                                                   subst this; exact known_try0) w7 X7.out).mono ?_
  rw [known_fresh]
  rintro e w8 ⟨rfl, hX, g8⟩
  have G8 : Hid (Chg (fun _ => False) w w8) := hide ((G7.out.trans g8).mono (fun x hx e => by have := X7.out.1; have := C6.out; omega))
  clear hX g8 X7 G7
  have S9 := hide (one_strs w8 nat0 (by decide))
  have N9 := hide (one_cns (w8.alloc (.cells #[.string nat0] 9)))
  have e9 := al_sz w8 (.cells #[.string nat0] 9)
  have N9' : Hid (Cns ((w8.alloc (.cells #[.string nat0] 9)).alloc (.cells #[.string nat0, .slice none 0 0, .int .i64 0] 32)) (fun x => x < ((w8.alloc (.cells #[.string nat0] 9)).alloc (.cells #[.string nat0, .slice none 0 0, .int .i64 0] 32)).heap.size) (.slice (some ⟨w8.heap.size + 1, 0, none⟩) 1 1) [(nat0, .nil, 0)]) := hide (by
    have h := N9.out
    rw [e9] at h
    exact h)
  clear e9
  have G9 := hide ((G8.out.alloc (.cells #[.string nat0] 9)).alloc (.cells #[.string nat0, .slice none 0 0, .int .i64 0] 32))
  have T9 := hide (S9.out.grow (al (w8.alloc (.cells #[.string nat0] 9)) (.cells #[.string nat0, .slice none 0 0, .int .i64 0] 32)))
  go_wp2_with fail
  refine (check_any [nat0] [(nat0, .nil, 0)] _ _ (fun x => x < ((w8.alloc (.cells #[.string nat0] 9)).alloc (.cells #[.string nat0, .slice none 0 0, .int .i64 0] 32)).heap.size) _ (fun x hx => hx) T9.out N9'.out).mono ?_
  rw [known_check2]
  rintro e w10 ⟨rfl, g10⟩
  have F := hide (G9.out.trans g10)
  clear g10 G9 T9 N9 S9
  go_wp2_with fail
  go_ret
  exact ⟨rfl, F.out⟩
end Go.Proofs.YtdoohocdaacnaaaDoor
