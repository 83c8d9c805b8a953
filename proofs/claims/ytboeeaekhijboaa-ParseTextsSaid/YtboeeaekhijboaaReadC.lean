/- lex's readers: Take. -/
import Derived.Test.YtboeeaekhijboaaReadB
namespace Go.Proofs.Ytboeeaekhijboaa
open Go.RowKit
set_option linter.unusedVariables false
set_option linter.unusedSimpArgs false

/-- Strings in a row that came in, in a block below B. -/
def Txs (w : World) (B : Nat) (a : Option Addr) (xs : List ByteArray) : Prop :=
  xs = [] ∨ ∃ g off, a = some ⟨g, off, none⟩ ∧ g < B ∧ ∀ i (h : i < xs.length), w.cell? ⟨g, off + i, none⟩ = some (.string (xs[i]'h))

theorem Txs.chg {w w' : World} {B : Nat} {a : Option Addr} {xs : List ByteArray} (h : Txs w B a xs) {S : Nat → Prop} (g : Chg S w w') (hn : ∀ k, k < B → ¬ S k) : Txs w' B a xs := by
  rcases h with h | ⟨b, off, rfl, hb, hr⟩
  · exact Or.inl h
  · exact Or.inr ⟨b, off, rfl, hb, fun i hi => g.cell (hn b hb) (hr i hi)⟩

def okTok (t : Tok) (x : ByteArray) : Bool := !(((t.1 != 1) && (t.1 != 3)) || !(t.2.1.toList == x.toList))
def takes (f : Nat → Tok) : Nat → List ByteArray → Bool
  | _, [] => true
  | i, x :: r => okTok (f i) x && takes f (i + 1) r
theorem takes_at (f : Nat → Tok) (i : Nat) (xs : List ByteArray) (h : i < xs.length) : takes f i (xs.drop i) = (okTok (f i) xs[i] && takes f (i + 1) (xs.drop (i + 1))) := by
  rw [List.drop_eq_getElem_cons h]
  rfl
theorem takes_end (f : Nat → Tok) (i : Nat) (xs : List ByteArray) (h : ¬ i < xs.length) : takes f i (xs.drop i) = true := by
  rw [List.drop_eq_nil_of_le (by omega)]
  rfl

theorem take_fin (w W : World) (R : Nat) (T : TypeId) (v : Value) (s : ByteArray) (k L : Nat) (q : Rd W R T v s k) (G : Chg (fun _ => False) w W) (c : Int) (hc : c = ((k + L : Nat) : Int)) :
    Rd (W.setCell ⟨R, 2, none⟩ (.int .i64 c)) R T v s (k + L) ∧ Chg (fun b => b = R) w (W.setCell ⟨R, 2, none⟩ (.int .i64 c)) :=
  have g0 : Chg (fun b => b = R) w W := Chg.none G
  ⟨q.set (k + L) c hc, g0.setCell (p := ⟨R, 2, none⟩) (Or.inl rfl) _⟩

set_option maxRecDepth 100000 in
set_option maxHeartbeats 8000000 in
theorem take_some (R B B' : Nat) (v : Value) (ts : List Tok) (s : ByteArray) (k : Nat) (hk : k ≤ ts.length) (hl : ts.length ≤ 1000000) (hs : s.size ≤ 1000000) (a : Option Addr) (cap L : Nat) (xs : List ByteArray) (hL : xs.length = L) (hx : L ≤ 1000) (w : World)
    (h : Rd w R 106 v s k) (hv : Tks w B v ts) (ht : Txs w B' a xs) :
    Calls Try.prog 95 #[.pointer (some ⟨R, 0, none⟩), .slice a L cap] w fun e w' => e = .returned (.bool (takes (fun i => tokAt ts s k i) 0 xs)) ∧
      Rd w' R 106 v s (if takes (fun i => tokAt ts s k i) 0 xs = true then k + L else k) ∧ Chg (fun b => b = R) w w' := by
  have pk := hide (fun w' (n : Int) h1 h2 => peek_some R B v ts s k n hk hl hs w' h1 h2)
  obtain ⟨out, hO⟩ : ∃ out, takes (fun i => tokAt ts s k i) 0 xs = out := ⟨_, rfl⟩
  rw [hO]
  have HO0 := hide hO
  have Hh := hide h
  have Hv := hide hv
  have Ht := hide ht
  have HL := hide hL
  clear h hv ht hL hO
  go_enter Try.func95, Try.ntmps95
  go_wp2_with fail
  go_loopw [10] (fun iv wr => ∃ i : Nat, i ≤ L ∧ iv = .int .i64 i ∧ Hid (Chg (fun _ => False) w wr) ∧ Hid (takes (fun i => tokAt ts s k i) i (xs.drop i) = out)) (fun iv _ => L - (intOf iv).toNat)
  case atStart => exact ⟨0, Nat.zero_le _, rfl, Chg.refl _ _, HO0⟩
  case round =>
    obtain ⟨i, hi, rfl, GR, HO⟩ := hrel
    by_cases hlt : i < L
    · have hlx : i < xs.length := by have := HL.out; omega
      have hta := takes_at (fun i => tokAt ts s k i) i xs hlx
      rcases Ht.out with h0 | ⟨g, off, rfl, hg, hc⟩
      · rw [h0] at hlx; exact absurd hlx (Nat.not_lt_zero _)
      · have cx := GR.out.cell (fun h => h) (hc i hlx)
        generalize xs[i]'hlx = x at *
        obtain ⟨t, htt⟩ : ∃ t, t = tokAt ts s k (i : Int) := ⟨_, rfl⟩
        (try dsimp only at hta)
        have pki := hide (fun w' h1 h2 => pk.out w' (i : Int) h1 h2)
        rw [← htt] at hta pki
        clear htt hc
        have QR := hide (Hh.out.chg GR.out (fun h => h))
        have QV := hide (Hv.out.chg GR.out (fun _ _ h => h))
        have hiL : (i : Int) < (L : Int) := by omega
        have hi0 : (0 : Int) ≤ (i : Int) := by omega
        have lg := World.block_lt_of_cell? _ _ cx
        go_wp2_with fail
        refine (pki.out _ QR.out QV.out).mono ?_
        rintro e w1 ⟨rfl, g1⟩
        obtain ⟨t0, t1, t2⟩ := t
        have etv : tokV (t0, t1, t2) = .agg #[.int .i64 t0, .string t1, .int .i64 (t2 : Int)] := rfl
        rw [etv]
        have a1 := blk_new w1 (.cells #[.int .i64 t0, .string t1, .int .i64 (t2 : Int)] 75)
        have cx1 : (w1.alloc (.cells #[.int .i64 t0, .string t1, .int .i64 (t2 : Int)] 75)).cell? ⟨g, off + i, none⟩ = some (.string x) := ((Chg.refl (fun _ => False) w1).alloc _).cell (fun h => h) (g1.cell (fun h => h) cx)
        have G2 := hide ((GR.out.trans g1).alloc (.cells #[.int .i64 t0, .string t1, .int .i64 (t2 : Int)] 75))
        obtain ⟨W, hW⟩ : ∃ W, W = w1.alloc (.cells #[.int .i64 t0, .string t1, .int .i64 (t2 : Int)] 75) := ⟨_, rfl⟩
        obtain ⟨D, hD⟩ : ∃ D, D = w1.heap.size := ⟨_, rfl⟩
        subst hW hD
        clear g1 cx pki QR QV GR lg
        have GR := G2
        have QR := hide (Hh.out.chg G2.out (fun h => h))
        clear G2
        have d0 : (w1.alloc (.cells #[.int .i64 t0, .string t1, .int .i64 (t2 : Int)] 75)).cell? ⟨w1.heap.size, 0, none⟩ = some (.int .i64 t0) := blk_cell a1 0
        have d1 : (w1.alloc (.cells #[.int .i64 t0, .string t1, .int .i64 (t2 : Int)] 75)).cell? ⟨w1.heap.size, 1, none⟩ = some (.string t1) := blk_cell a1 1
        have d2 : (w1.alloc (.cells #[.int .i64 t0, .string t1, .int .i64 (t2 : Int)] 75)).cell? ⟨w1.heap.size, 2, none⟩ = some (.int .i64 (t2 : Int)) := blk_cell a1 2
        cases e1 : (t0 != 1)
        · by_cases hx2 : t1.toList = x.toList
          · have ex : (t1.toList == x.toList) = true := by simp [hx2]
            have hok : okTok (t0, t1, t2) x = true := by unfold okTok; simp only [e1, ex]; rfl
            have hfin : takes (fun i => tokAt ts s k i) (i + 1) (xs.drop (i + 1)) = out := by rw [← HO.out, hta, hok, Bool.true_and]
            clear hta hok HO
            go_wp2_with fail
            go_roundw
            case rel => exact ⟨i + 1, by omega, by go_num, hide (GR.out), hide hfin⟩
            case measure => simp [intOf]; omega
          · have ex : (t1.toList == x.toList) = false := by simpa using hx2
            have hok : okTok (t0, t1, t2) x = false := by unfold okTok; simp only [e1, ex]; rfl
            have hfin : out = false := by rw [← HO.out, hta, hok]; rfl
            clear hta hok HO
            subst hfin
            go_wp2_with fail
            go_ret
            exact ⟨rfl, (by first | exact QR.out | (rw [if_neg (by decide)]; exact QR.out)), (GR.out).none⟩
        · cases e3 : (t0 != 3)
          · by_cases hx2 : t1.toList = x.toList
            · have ex : (t1.toList == x.toList) = true := by simp [hx2]
              have hok : okTok (t0, t1, t2) x = true := by unfold okTok; simp only [e1, e3, ex]; rfl
              have hfin : takes (fun i => tokAt ts s k i) (i + 1) (xs.drop (i + 1)) = out := by rw [← HO.out, hta, hok, Bool.true_and]
              clear hta hok HO
              go_wp2_with fail
              go_roundw
              case rel => exact ⟨i + 1, by omega, by go_num, hide (GR.out), hide hfin⟩
              case measure => simp [intOf]; omega
            · have ex : (t1.toList == x.toList) = false := by simpa using hx2
              have hok : okTok (t0, t1, t2) x = false := by unfold okTok; simp only [e1, e3, ex]; rfl
              have hfin : out = false := by rw [← HO.out, hta, hok]; rfl
              clear hta hok HO
              subst hfin
              go_wp2_with fail
              go_ret
              exact ⟨rfl, (by first | exact QR.out | (rw [if_neg (by decide)]; exact QR.out)), (GR.out).none⟩
          · have hok : okTok (t0, t1, t2) x = false := by unfold okTok; simp only [e1, e3]; rfl
            have hfin : out = false := by rw [← HO.out, hta, hok]; rfl
            clear hta hok HO
            subst hfin
            go_wp2_with fail
            go_ret
            exact ⟨rfl, (by first | exact QR.out | (rw [if_neg (by decide)]; exact QR.out)), (GR.out).none⟩
    · have hfin : out = true := by rw [← HO.out]; exact takes_end _ i xs (by have := HL.out; omega)
      subst hfin
      have QR := hide (Hh.out.chg GR.out (fun h => h))
      obtain ⟨c0, c1, c2, f2, lR⟩ := QR.out.cells
      have e1 : IntKind.i64.wrap ((k : Int) + (L : Int)) = (k : Int) + (L : Int) := IntWalk.i64_in _ (by omega)
      have fin := hide (take_fin w wr R 106 v s k L QR.out GR.out ((k : Int) + (L : Int)) (by omega))
      go_wp2_with fail
      go_ret
      (try rw [if_pos rfl])
      exact ⟨rfl, fin.out⟩

theorem take_nil (a : Option Addr) (cap L : Nat) (w : World) (B : Nat) (xs : List ByteArray) (hL : xs.length = L) (ht : Txs w B a xs) :
    Calls Try.prog 95 #[.pointer none, .slice a L cap] w fun e w' => e = .returned (.bool (decide (L = 0))) ∧ Chg (fun _ => False) w w' := by
  cases L with
  | zero =>
    go_enter Try.func95, Try.ntmps95
    go_wp2_with fail
    refine wp_loop_rounds 1 ?_
    rw [rounds_succ]
    go_wp2_with fail
    go_ret
    exact ⟨rfl, Chg.refl _ _⟩
  | succ L =>
    rcases ht with h0 | ⟨g, off, rfl, hg, hc⟩
    · rw [h0] at hL; cases hL
    · have cx := hc 0 (by omega)
      have pk := hide (fun w => peek_nil 0 w)
      generalize xs[0]'(by omega) = x at *
      rw [Nat.add_zero] at cx
      have e9 : (Nat.cast (L + 1) : Int) = (L : Int) + 1 := by omega
      have e8 : (0 : Int) < (L : Int) + 1 := by omega
      clear hc
      go_enter Try.func95, Try.ntmps95
      go_wp2_with fail
      refine wp_loop_rounds (L + 2) ?_
      rw [rounds_succ]
      go_wp2_with fail
      refine (pk.out _).mono ?_
      rintro e w1 ⟨rfl, g1⟩
      have G := hide (g1.alloc (.cells #[.int .i64 4, .string ⟨#[]⟩, .int .i64 0] 75))
      have etv : tokV (4, ⟨#[]⟩, 0) = .agg #[.int .i64 4, .string ⟨#[]⟩, .int .i64 0] := rfl
      rw [etv]
      go_wp2_with fail
      go_ret
      exact ⟨by simp, G.out⟩
end Go.Proofs.Ytboeeaekhijboaa
