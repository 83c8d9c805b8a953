/- To: the document's rank as the program's. -/
import Derived.Test.YtdcpcemihpkkaaaKnown
import Derived.Deep.RegionHeld3
import Derived.Deep.AppendLies
import Derived.StillTailTactics
import Derived.Deep.Heap
namespace Go.Proofs.Ytdcpcemihpkkaaa
open Go.RowKit Go.Maps
set_option linter.unusedVariables false
set_option linter.unusedSimpArgs false

/-- In the block r no two numbers stand side by side. -/
def Odd (w : World) (r : Nat) : Prop := ∀ i x y, w.cell? ⟨r, i, none⟩ = some (.int .i64 x) → w.cell? ⟨r, i + 1, none⟩ = some (.int .i64 y) → False
theorem odd25 {w : World} {r : Nat} {N : Int} {a1 a2 : Option Addr} {p1 p2 q1 q2 : Nat} (hb : w.heap[r]? = some (.cells #[.int .i64 N, .slice a1 p1 q1, .slice a2 p2 q2] 25)) : Odd w r := by
  intro i x y h0 h1
  rw [blk_cell hb] at h0 h1
  match i, h0, h1 with
  | 0, _, h => cases h
  | 1, h, _ => cases h
  | 2, h, _ => cases h
  | j + 3, h, _ => cases h
theorem IRow.chgQ {w w' : World} {B : Nat} {v : Value} {l : List (Int × Int)} (h : IRow w B v l) {r : Nat} (ho : Odd w r) (g : Chg (fun x => x = r) w w') : IRow w' B v l := by
  obtain ⟨a, cap, e, h1⟩ := h
  refine ⟨a, cap, e, ?_⟩
  rcases h1 with h1 | ⟨g1, off, e1, h2, h3⟩
  · exact Or.inl h1
  · have hne : ∀ i (h : i < l.length), ¬ g1 = r := fun i hi e => by
      obtain ⟨k0, k1⟩ := h3 i hi
      subst e
      exact ho _ _ _ k0 k1
    exact Or.inr ⟨g1, off, e1, h2, fun i hi => ⟨g.cell (hne i hi) (h3 i hi).1, g.cell (hne i hi) (h3 i hi).2⟩⟩
theorem PRow.chgQ {w w' : World} {B : Nat} {v : Value} {qs : Pairs} (h : PRow w B v qs) {r : Nat} (ho : Odd w r) (g : Chg (fun x => x = r) w w') : PRow w' B v qs := by
  obtain ⟨a, cap, e, h1⟩ := h
  refine ⟨a, cap, e, ?_⟩
  rcases h1 with h1 | ⟨g1, off, e1, h2, h3⟩
  · exact Or.inl h1
  · have hne : ∀ i (h : i < qs.length), ¬ g1 = r := fun i hi e => by
      obtain ⟨k0, k1⟩ := h3 i hi
      subst e
      exact ho _ _ _ k0 k1
    exact Or.inr ⟨g1, off, e1, h2, fun i hi => ⟨g.cell (hne i hi) (h3 i hi).1, g.cell (hne i hi) (h3 i hi).2⟩⟩
theorem Rs.chgQ {w w' : World} {b m : Nat} {qs : Pairs} {mu su : Value} (h : Rs w b m qs mu su) {r : Nat} {cur : Array Value} {T : TypeId} (ho : Odd w r) (hr : w.heap[r]? = some (.cells cur T)) (hT : T ≠ 76 ∧ T ≠ 94) (hne : b ≠ r) (g : Chg (fun x => x = r) w w') : Rs w' b m qs mu su := by
  rcases h with ⟨pv, k, h1, h2⟩ | ⟨L, gs, W, pv, k, h1, h2, h3, h4⟩
  · exact Or.inl ⟨pv, k, h1.chgQ ho g, h2.chg g hne⟩
  · refine Or.inr ⟨L, gs, W, pv, k, h1.chgQ ho g, h2.chg g hne, h3.chg1 g (fun e => ?_) (fun i hi e => ?_), h4⟩
    · subst e
      obtain ⟨c, k1, _⟩ := h3.c
      rw [hr] at k1
      injection k1 with k1
      injection k1 with _ k2
      exact hT.1 k2
    · subst e
      obtain ⟨c, k1, _⟩ := h3.rows i hi
      rw [hr] at k1
      injection k1 with k1
      injection k1 with _ k2
      exact hT.2 k2
theorem KM.chgQ {w w' : World} {B m : Nat} {f : Int → Option Int} (h : KM w B m f) {r : Nat} {cur : Array Value} {T : TypeId} (hr : w.heap[r]? = some (.cells cur T)) (g : Chg (fun x => x = r) w w') : KM w' B m f := by
  refine h.chg g (fun e => ?_)
  obtain ⟨D, ⟨es, clock, hb, _⟩, _⟩ := h
  subst e
  rw [hr] at hb
  cases hb

theorem keepTo {w w1 : World} {base T s m : Nat} {v : Value} {xs : List Value} (h : w.ownsRow base T s v m xs) (hg : w.grownBy w1 v.ownBlock) {r g i j k : Nat} (hr : r < base) (hgb : g < base) {a b c : Value} (ha : w.cell? ⟨r, i, none⟩ = some a) (hb : w.cell? ⟨g, j, none⟩ = some b) (hc : w.cell? ⟨g, k, none⟩ = some c) :
    w1.cell? ⟨r, i, none⟩ = some a ∧ w1.cell? ⟨g, j, none⟩ = some b ∧ w1.cell? ⟨g, k, none⟩ = some c := by
  have gB := own_chgNo (S := fun x => base ≤ x) h hg (fun x h => h)
  exact ⟨gB.cell (by omega) ha, gB.cell (by omega) hb, gB.cell (by omega) hc⟩

/-- What To gives, of pairs and statuses cut already. -/
def ToPost (N : Int) (rp rs : List (Int × Int)) (w : World) (e : Ending) (w' : World) : Prop :=
  ∃ pv sv, IRow w' w.heap.size pv rp ∧ IRow w' w.heap.size sv rs ∧ Chg (fun _ => False) w w' ∧
  ((newCode N rp rs ≠ 0 ∧ e = .returned (.tuple #[.pointer none, .agg #[.int .i64 N, pv, sv], .int .i64 (newCode N rp rs)])) ∨
   (newCode N rp rs = 0 ∧ ∃ b B su, e = .returned (.tuple #[.pointer (some ⟨b, 0, none⟩), .agg #[.int .i64 N, pv, sv], .int .i64 0]) ∧ w.heap.size ≤ b ∧ B < b ∧ Rs w' b N.toNat (nats rp) (.map (some B)) su ∧ KM w' B rs.length (kindOf rs) ∧ IRow w' b su rs))

theorem al_sz (w : World) (o : Obj) : (w.alloc o).heap.size = w.heap.size + 1 := by simp

theorem IRow.cut {w : World} {B : Nat} {a : Option Addr} {cap : Nat} {l : List (Int × Int)} (h : IRow w B (.slice a l.length cap) l) {k : Nat} (hk : k ≤ l.length) : IRow w B (.slice a k cap) (l.take k) := by
  obtain ⟨a', cap', e, h1⟩ := h
  injection e with e1 e2 e3
  subst e1 e3
  refine ⟨a, cap, by rw [List.length_take, Nat.min_eq_left hk], ?_⟩
  rcases h1 with h1 | ⟨g, off, e, h2, h3⟩
  · exact Or.inl (by rw [h1]; simp)
  · refine Or.inr ⟨g, off, e, h2, fun i hi => ?_⟩
    have hi' : i < l.length := by rw [List.length_take] at hi; omega
    rw [List.getElem_take]
    exact h3 i hi'

/-- An own row of statuses. -/
def SAcc (w : World) (base : Nat) (v : Value) (l : List (Int × Int)) : Prop := w.ownsRow base 52 2 v l.length (cells2 l)

set_option maxRecDepth 100000 in
set_option maxHeartbeats 16000000 in
theorem to_any (N : Int) (pa sa : Option Addr) (pl pc sl sc : Nat) (rp rs : List (Int × Int)) (hpl : pl = rp.length) (hsl : sl = rs.length) (hpc : pl ≤ pc) (hsc : sl ≤ sc) (hpm : pc ≤ maxLen) (hsm : sc ≤ maxLen) (hin : ∀ s ∈ rs, In64 s.1 ∧ In64 s.2) (w : World)
    (hp : IRow w w.heap.size (.slice pa pl pc) rp) (hs : IRow w w.heap.size (.slice sa sl sc) rs) :
    Calls Try.prog 9 #[.agg #[.int .i64 N, .slice pa pl pc, .slice sa sl sc]] w (ToPost N (rp.take 40) (rs.take 20) w) := by
  obtain ⟨i0, hi0, hz0, hz1, hz2⟩ := info_parts info52
  have HP := hide hp
  have HS := hide hs
  have HI := hide hin
  have HPL := hide hpl
  have HSL := hide hsl
  clear hp hs hin hpl hsl
  unfold maxLen at hpm hsm
  rcases Nat.lt_or_ge 40 pl with hp40 | hp40 <;> rcases Nat.lt_or_ge 20 sl with hs20 | hs20
  · have c1 : (40 : Int) < (pl : Int) := by omega
    have c2 : (20 : Int) < (sl : Int) := by omega
    obtain ⟨rp2, hrp⟩ : ∃ l, rp.take 40 = l := ⟨_, rfl⟩
    obtain ⟨rs2, hrs⟩ : ∃ l, rs.take 20 = l := ⟨_, rfl⟩
    have HRP : Hid (IRow w w.heap.size (.slice pa 40 pc) rp2) := hide (by
      have h := HP.out; rw [HPL.out] at h; have h2 := h.cut (k := 40) (by have := HPL.out; omega)
      rw [← hrp]; exact h2)
    have HRS : Hid (IRow w w.heap.size (.slice sa 20 sc) rs2) := hide (by
      have h := HS.out; rw [HSL.out] at h; have h2 := h.cut (k := 20) (by have := HSL.out; omega)
      rw [← hrs]; exact h2)
    have HI2 : Hid (∀ s ∈ rs2, In64 s.1 ∧ In64 s.2) := hide (fun s h => HI.out s (by rw [← hrs] at h; exact List.mem_of_mem_take h))
    have lp2 : rp2.length ≤ 40 := by rw [← hrp, List.length_take]; omega
    have ls2 : rs2.length ≤ 20 := by rw [← hrs, List.length_take]; omega
    have ek : rs2.length = 20 := by have h := HSL.out; rw [← hrs, List.length_take]; omega
    rw [hrp, hrs]
    have TL : ∀ (k : Nat) (h : k < rs2.length), rs2.take (k + 1) = rs2.take k ++ [rs2[k]] := fun k h => List.take_succ_eq_append_getElem h
    have HTL := hide TL
    clear TL HP HS HPL HSL HI hrp hrs
    go_enter Try.func9, Try.ntmps9
    go_wp2_with fail
    have B1 := hide (blk_alloc (o' := .cells #[.int .i64 0, .slice none 0 0, .slice none 0 0] 25) (blk_new w (.cells #[.int .i64 N, .slice pa 40 pc, .slice sa 20 sc] 25)))
    have B2 := hide (blk_new (w.alloc (.cells #[.int .i64 N, .slice pa 40 pc, .slice sa 20 sc] 25)) (.cells #[.int .i64 0, .slice none 0 0, .slice none 0 0] 25))
    have C2 := hide ((al w (.cells #[.int .i64 N, .slice pa 40 pc, .slice sa 20 sc] 25)).trans (al _ (.cells #[.int .i64 0, .slice none 0 0, .slice none 0 0] 25)))
    have Z2 : (w.alloc (.cells #[.int .i64 N, .slice pa 40 pc, .slice sa 20 sc] 25)).heap.size = w.heap.size + 1 := al_sz _ _
    have Z3 : ((w.alloc (.cells #[.int .i64 N, .slice pa 40 pc, .slice sa 20 sc] 25)).alloc (.cells #[.int .i64 0, .slice none 0 0, .slice none 0 0] 25)).heap.size = w.heap.size + 2 := by rw [al_sz, Z2]
    rw [Z2] at B2
    generalize (w.alloc (.cells #[.int .i64 N, .slice pa 40 pc, .slice sa 20 sc] 25)).alloc (.cells #[.int .i64 0, .slice none 0 0, .slice none 0 0] 25) = w2 at *
    clear Z2 Z3 c1 c2 hpc hsc hpm hsm hp40 hs20
    go_loopw [5, 6] (fun ov iv wr => ∃ k : Nat, k ≤ rs2.length ∧ iv = .int .i64 k ∧ Hid (SAcc wr (w.heap.size + 2) ov (rs2.take k)) ∧ Hid (wr.heap[w.heap.size]? = some (.cells #[.int .i64 N, .slice pa 40 pc, .slice sa 20 sc] 25)) ∧ Hid (wr.heap[w.heap.size + 1]? = some (.cells #[.int .i64 0, .slice none 0 0, .slice none 0 0] 25)) ∧ Hid (Chg (fun _ => False) w wr)) (fun _ iv _ => rs2.length - (intOf iv).toNat)
    case atStart => exact ⟨0, Nat.zero_le _, rfl, ⟨rfl, Or.inl ⟨rfl, rfl⟩⟩, B1, B2, C2⟩
    case round =>
      clear B1 B2 C2
      obtain ⟨k, hk, rfl, hA, hb1, hb2, hC⟩ := hrel
      have r1 : wr.cell? ⟨w.heap.size, 0, none⟩ = some (.int .i64 N) := blk_cell hb1.out 0
      have r2 : wr.cell? ⟨w.heap.size, 1, none⟩ = some (.slice pa 40 pc) := blk_cell hb1.out 1
      have r3 : wr.cell? ⟨w.heap.size, 2, none⟩ = some (.slice sa 20 sc) := blk_cell hb1.out 2
      by_cases hlt : k < rs2.length
      · obtain ⟨a', c', e', hr'⟩ := HRS.out
        rcases hr' with h0 | ⟨g, off, e2, hg, hcell⟩
        · rw [h0] at hlt; exact absurd hlt (Nat.not_lt_zero _)
        injection e' with e3 e4 e5
        subst e3
        subst e2
        clear e4 e5
        have q1 := hC.out.cell (fun h => h) (hcell k hlt).1
        have q2 := hC.out.cell (fun h => h) (hcell k hlt).2
        have tk := HTL.out k hlt
        generalize rs2[k] = y at *
        obtain ⟨y0, y1⟩ := y
        dsimp only at q1 q2
        have i2 : (0 : Int) ≤ (k : Int) := by omega
        have i3 : (k : Int) < 20 := by omega
        have hacc : (rs2.take k).length = k := by rw [List.length_take]; omega
        obtain ⟨acc, hac⟩ : ∃ acc, acc = rs2.take k := ⟨_, rfl⟩
        rw [← hac] at hA hacc tk
        have sz2 : w.heap.size + 2 ≤ wr.heap.size := by have := blk_lt hb2.out; omega
        have hA' : wr.ownsRow (w.heap.size + 2) 52 2 u5 acc.length (cells2 acc) := hA.out
        have HO := hide hA'
        have O3 := hide ((hA'.alloc (.cells #[.int .i64 y0, .int .i64 y1] 52)).drew)
        have C3 := hide ((hC.out.trans (al wr (.cells #[.int .i64 y0, .int .i64 y1] 52))).drew)
        have D1 := hide (blk_alloc (o' := .cells #[.int .i64 y0, .int .i64 y1] 52) hb1.out)
        have D2 := hide (blk_alloc (o' := .cells #[.int .i64 y0, .int .i64 y1] 52) hb2.out)
        have m1 := hide (show acc.length + 1 ≤ maxLen by unfold maxLen; omega)
        have m2 := hide (show (acc.length + 1) * 16 ≤ 140737488355328 by omega)
        have SZ := hide sz2
        have SZ1 := hide (show w.heap.size + 2 ≤ ((wr.alloc (.cells #[.int .i64 y0, .int .i64 y1] 52)).drew).heap.size from Nat.le_trans sz2 (al wr _).size)
        have SZ2 := hide (show ((wr.alloc (.cells #[.int .i64 y0, .int .i64 y1] 52)).drew).heap.size = wr.heap.size + 1 from al_sz _ _)
        have NB := hide (World.news_of_block (cs := #[.int .i64 y0, .int .i64 y1]) (t := 52) (fr := (0, 0)) (heap_alloc_new wr _))
        have KEEP := hide (fun (w1 : World) (hg : ((wr.alloc (.cells #[.int .i64 y0, .int .i64 y1] 52)).drew).grownBy w1 u5.ownBlock) => keepTo (r := w.heap.size) (g := g) O3.out hg (by omega) (by omega) ((al wr _).cell (fun h => h) r3) ((al wr _).cell (fun h => h) q1) ((al wr _).cell (fun h => h) q2))
        have TK := hide tk
        clear hA hA' hb1 hb2 hC hcell hac tk sz2 hacc
        go_wp2_with fail
        go_region_held3 (fun w' => w'.cell? ⟨w.heap.size, 2, none⟩ = some (.slice (some ⟨g, off, none⟩) 20 sc) ∧ w'.cell? ⟨g, off + k * 2, none⟩ = some (.int .i64 y0) ∧ w'.cell? ⟨g, off + k * 2 + 1, none⟩ = some (.int .i64 y1))
          (first | (exact KEEP.out _ (by assumption)) | go_keep)
          ((refine step_append_lies _ (by rfl) _ _ _ (by rfl) (w.heap.size + 2) 52 i0 _ 2 16 Try.underlying49 hi0 hz0 hz1 hz2 rfl (by omega) u5 acc.length (cells2 acc) (by rfl) O3.out ⟨wr.heap.size, 0, none⟩ 1 1 [.int .i64 y0, .int .i64 y1] (by rfl) (by rfl) NB.out (by simp [Value.oneCell']) (by omega) m1.out m2.out SZ1.out (wr.heap.size + 1) SZ2.out ?_; intro gg cap w3 hown3 hgrow hat hlt3))
        have gB := own_chgNo (S := fun x => w.heap.size + 2 ≤ x) O3.out hgrow (fun x h => h)
        have D3 := hide (gB.blk (by omega) D1.out)
        have D4 := hide (gB.blk (by omega) D2.out)
        have C4 : Hid (Chg (fun _ => False) w w3) := hide ((C3.out.none.trans gB).mono (fun x hx h => by omega))
        have O4 : Hid (SAcc w3 (w.heap.size + 2) (.slice (some ⟨gg, 0, none⟩) (acc.length + 1) cap) (rs2.take (k + 1))) := hide (by
          unfold SAcc
          rw [TK.out, List.length_append, cells2_app]
          exact hown3)
        clear hown3 hgrow hat hlt3 O3 NB C3 D1 D2 gB SZ SZ1 SZ2 KEEP HO m1 m2
        go_wp2_with fail
        go_roundw
        case rel => exact ⟨k + 1, by omega, by go_num, O4, D3, D4, C4⟩
        case measure => simp [intOf]; omega
      · have hkl : k = rs2.length := by omega
        subst hkl
        have hA' : wr.ownsRow (w.heap.size + 2) 52 2 u5 rs2.length (cells2 rs2) := by have h := hA.out; rw [List.take_length] at h; exact h
        have IS := hide (irow_own hA')
        have IP := hide (HRP.out.chg hC.out (fun _ _ h => h))
        have IS0 := hide (HRS.out.chg hC.out (fun _ _ h => h))
        have szr : w.heap.size + 2 ≤ wr.heap.size := by have := blk_lt hb2.out; omega
        have nw := hide (new_any N (.slice pa 40 pc) u5 rp2 rs2 (by omega) (by omega) HI2.out wr.heap.size wr (Nat.le_refl _) (IP.out.up (by omega)) IS.out)
        clear hA hA'
        go_wp2_with fail
        refine nw.out.mono ?_
        rintro e w6 ⟨h6, g6⟩
        have E1 := hide (g6.blk (fun h => h) hb1.out)
        have E2 := hide (g6.blk (fun h => h) hb2.out)
        have JP := hide (IP.out.chg g6 (fun _ _ h => h))
        have JS := hide (IS0.out.chg g6 (fun _ _ h => h))
        have C6 := hide (hC.out.trans g6)
        clear nw IP IS IS0 hb1 hb2 hC g6 r1 r2 r3
        have r1 : w6.cell? ⟨w.heap.size, 0, none⟩ = some (.int .i64 N) := blk_cell E1.out 0
        have r2 : w6.cell? ⟨w.heap.size, 1, none⟩ = some (.slice pa 40 pc) := blk_cell E1.out 1
        have r3 : w6.cell? ⟨w.heap.size, 2, none⟩ = some (.slice sa 20 sc) := blk_cell E1.out 2
        obtain ⟨code, hcode⟩ : ∃ code, newCode N rp2 rs2 = code := ⟨_, rfl⟩
        rw [hcode] at h6
        rcases h6 with ⟨h6, rfl⟩ | ⟨h6, b, B, su, rfl, hb, hB, hR, hK, hI⟩
        · go_wp2_with fail
          have KP := JP
          have KS := JS
          have C7 := C6
          have E4 := E2
          have E3 := E2.out
          have t0 : w6.cell? ⟨w.heap.size + 1, 0, none⟩ = some (.int .i64 0) := blk_cell E3 0
          have t1 : w6.cell? ⟨w.heap.size + 1, 1, none⟩ = some (.slice none 0 0) := blk_cell E3 1
          have t2 : w6.cell? ⟨w.heap.size + 1, 2, none⟩ = some (.slice none 0 0) := blk_cell E3 2
          have f0 := blk_free E3 0
          have f1 := blk_free E3 1
          have f2 := blk_free E3 2
          have l7 := blk_lt E3
          have zz := blk_set (blk_set (blk_set E3 0 (.int .i64 N)) 1 (.slice pa 40 pc)) 2 (.slice sa 20 sc)
          have ZZ := hide zz
          have G8 := hide (((Chg.set w6 (w.heap.size + 1) 0 (.int .i64 N)).trans (Chg.set _ (w.heap.size + 1) 1 (.slice pa 40 pc))).trans (Chg.set _ (w.heap.size + 1) 2 (.slice sa 20 sc)))
          clear zz E3 JP JS C6 E2 E1
          go_region_held3 (fun w' => w'.cell? ⟨w.heap.size, 0, none⟩ = some (.int .i64 N) ∧ w'.cell? ⟨w.heap.size, 1, none⟩ = some (.slice pa 40 pc) ∧ w'.cell? ⟨w.heap.size, 2, none⟩ = some (.slice sa 20 sc)) (go_keep) (fail)
          go_wp2_with fail
          have z0 : ((((w6.setCell ⟨w.heap.size + 1, 0, none⟩ (.int .i64 N)).setCell ⟨w.heap.size + 1, 1, none⟩ (.slice pa 40 pc)).setCell ⟨w.heap.size + 1, 2, none⟩ (.slice sa 20 sc)).drew).cell? ⟨w.heap.size + 1, 0, none⟩ = some (.int .i64 N) := blk_cell ZZ.out 0
          have z1 : ((((w6.setCell ⟨w.heap.size + 1, 0, none⟩ (.int .i64 N)).setCell ⟨w.heap.size + 1, 1, none⟩ (.slice pa 40 pc)).setCell ⟨w.heap.size + 1, 2, none⟩ (.slice sa 20 sc)).drew).cell? ⟨w.heap.size + 1, 1, none⟩ = some (.slice pa 40 pc) := blk_cell ZZ.out 1
          have z2 : ((((w6.setCell ⟨w.heap.size + 1, 0, none⟩ (.int .i64 N)).setCell ⟨w.heap.size + 1, 1, none⟩ (.slice pa 40 pc)).setCell ⟨w.heap.size + 1, 2, none⟩ (.slice sa 20 sc)).drew).cell? ⟨w.heap.size + 1, 2, none⟩ = some (.slice sa 20 sc) := blk_cell ZZ.out 2
          have GD := hide (G8.out.drew)
          generalize (((w6.setCell ⟨w.heap.size + 1, 0, none⟩ (.int .i64 N)).setCell ⟨w.heap.size + 1, 1, none⟩ (.slice pa 40 pc)).setCell ⟨w.heap.size + 1, 2, none⟩ (.slice sa 20 sc)).drew = w8 at *
          refine bodyPost_ret (fn := Try.f9) (v := .tuple #[.pointer none, .agg #[.int .i64 N, .slice pa 40 pc, .slice sa 20 sc], .int .i64 code]) (by simp [results, Try.results9, go_sem, z0, z1, z2]) rfl ?_
          refine ⟨_, _, KP.out.chg GD.out (fun x hx e => by omega), KS.out.chg GD.out (fun x hx e => by omega), (C7.out.none.trans GD.out).mono (fun x hx e => by omega), Or.inl ⟨by rw [hcode]; exact h6, by rw [hcode]⟩⟩
        · have HR := hide hR
          have HK := hide hK
          have HI := hide hI
          clear hR hK hI
          go_wp2_with fail
          have KP := JP
          have KS := JS
          have C7 := C6
          have E4 := E2
          have E3 := E2.out
          have R7 := HR
          have K7 := HK
          have I7 := HI
          have t0 : w6.cell? ⟨w.heap.size + 1, 0, none⟩ = some (.int .i64 0) := blk_cell E3 0
          have t1 : w6.cell? ⟨w.heap.size + 1, 1, none⟩ = some (.slice none 0 0) := blk_cell E3 1
          have t2 : w6.cell? ⟨w.heap.size + 1, 2, none⟩ = some (.slice none 0 0) := blk_cell E3 2
          have f0 := blk_free E3 0
          have f1 := blk_free E3 1
          have f2 := blk_free E3 2
          have l7 := blk_lt E3
          have zz := blk_set (blk_set (blk_set E3 0 (.int .i64 N)) 1 (.slice pa 40 pc)) 2 (.slice sa 20 sc)
          have ZZ := hide zz
          have G8 := hide (((Chg.set w6 (w.heap.size + 1) 0 (.int .i64 N)).trans (Chg.set _ (w.heap.size + 1) 1 (.slice pa 40 pc))).trans (Chg.set _ (w.heap.size + 1) 2 (.slice sa 20 sc)))
          clear zz E3 JP JS C6 E2 E1
          go_region_held3 (fun w' => w'.cell? ⟨w.heap.size, 0, none⟩ = some (.int .i64 N) ∧ w'.cell? ⟨w.heap.size, 1, none⟩ = some (.slice pa 40 pc) ∧ w'.cell? ⟨w.heap.size, 2, none⟩ = some (.slice sa 20 sc)) (go_keep) (fail)
          go_wp2_with fail
          have z0 : ((((w6.setCell ⟨w.heap.size + 1, 0, none⟩ (.int .i64 N)).setCell ⟨w.heap.size + 1, 1, none⟩ (.slice pa 40 pc)).setCell ⟨w.heap.size + 1, 2, none⟩ (.slice sa 20 sc)).drew).cell? ⟨w.heap.size + 1, 0, none⟩ = some (.int .i64 N) := blk_cell ZZ.out 0
          have z1 : ((((w6.setCell ⟨w.heap.size + 1, 0, none⟩ (.int .i64 N)).setCell ⟨w.heap.size + 1, 1, none⟩ (.slice pa 40 pc)).setCell ⟨w.heap.size + 1, 2, none⟩ (.slice sa 20 sc)).drew).cell? ⟨w.heap.size + 1, 1, none⟩ = some (.slice pa 40 pc) := blk_cell ZZ.out 1
          have z2 : ((((w6.setCell ⟨w.heap.size + 1, 0, none⟩ (.int .i64 N)).setCell ⟨w.heap.size + 1, 1, none⟩ (.slice pa 40 pc)).setCell ⟨w.heap.size + 1, 2, none⟩ (.slice sa 20 sc)).drew).cell? ⟨w.heap.size + 1, 2, none⟩ = some (.slice sa 20 sc) := blk_cell ZZ.out 2
          have GD := hide (G8.out.drew)
          generalize (((w6.setCell ⟨w.heap.size + 1, 0, none⟩ (.int .i64 N)).setCell ⟨w.heap.size + 1, 1, none⟩ (.slice pa 40 pc)).setCell ⟨w.heap.size + 1, 2, none⟩ (.slice sa 20 sc)).drew = w8 at *
          refine bodyPost_ret (fn := Try.f9) (v := .tuple #[.pointer (some ⟨b, 0, none⟩), .agg #[.int .i64 N, .slice pa 40 pc, .slice sa 20 sc], .int .i64 0]) (by simp [results, Try.results9, go_sem, z0, z1, z2]) rfl ?_
          refine ⟨_, _, KP.out.chg GD.out (fun x hx e => by omega), KS.out.chg GD.out (fun x hx e => by omega), (C7.out.none.trans GD.out).mono (fun x hx e => by omega), Or.inr ⟨by rw [hcode]; exact h6, b, B, su, rfl, by omega, hB, R7.out.chgQ (odd25 E4.out) E4.out ⟨by decide, by decide⟩ (by omega) GD.out, K7.out.chgQ E4.out GD.out, I7.out.chgQ (odd25 E4.out) GD.out⟩⟩
  · have c1 : (40 : Int) < (pl : Int) := by omega
    have c2 : (sl : Int) ≤ 20 := by omega
    obtain ⟨rp2, hrp⟩ : ∃ l, rp.take 40 = l := ⟨_, rfl⟩
    obtain ⟨rs2, hrs⟩ : ∃ l, rs.take 20 = l := ⟨_, rfl⟩
    have HRP : Hid (IRow w w.heap.size (.slice pa 40 pc) rp2) := hide (by
      have h := HP.out; rw [HPL.out] at h; have h2 := h.cut (k := 40) (by have := HPL.out; omega)
      rw [← hrp]; exact h2)
    have HRS : Hid (IRow w w.heap.size (.slice sa sl sc) rs2) := hide (by
      have h := HS.out; rw [HSL.out] at h; have h2 := h.cut (k := rs.length) (by have := HSL.out; omega)
      rw [← hrs]; rw [HSL.out]; rw [List.take_length] at h2; rw [List.take_of_length_le (by have := HSL.out; omega)]; exact h2)
    have HI2 : Hid (∀ s ∈ rs2, In64 s.1 ∧ In64 s.2) := hide (fun s h => HI.out s (by rw [← hrs] at h; exact List.mem_of_mem_take h))
    have lp2 : rp2.length ≤ 40 := by rw [← hrp, List.length_take]; omega
    have ls2 : rs2.length ≤ 20 := by rw [← hrs, List.length_take]; omega
    have ek : rs2.length = sl := by have h := HSL.out; rw [← hrs, List.length_take]; omega
    rw [hrp, hrs]
    have TL : ∀ (k : Nat) (h : k < rs2.length), rs2.take (k + 1) = rs2.take k ++ [rs2[k]] := fun k h => List.take_succ_eq_append_getElem h
    have HTL := hide TL
    clear TL HP HS HPL HSL HI hrp hrs
    go_enter Try.func9, Try.ntmps9
    go_wp2_with fail
    have B1 := hide (blk_alloc (o' := .cells #[.int .i64 0, .slice none 0 0, .slice none 0 0] 25) (blk_new w (.cells #[.int .i64 N, .slice pa 40 pc, .slice sa sl sc] 25)))
    have B2 := hide (blk_new (w.alloc (.cells #[.int .i64 N, .slice pa 40 pc, .slice sa sl sc] 25)) (.cells #[.int .i64 0, .slice none 0 0, .slice none 0 0] 25))
    have C2 := hide ((al w (.cells #[.int .i64 N, .slice pa 40 pc, .slice sa sl sc] 25)).trans (al _ (.cells #[.int .i64 0, .slice none 0 0, .slice none 0 0] 25)))
    have Z2 : (w.alloc (.cells #[.int .i64 N, .slice pa 40 pc, .slice sa sl sc] 25)).heap.size = w.heap.size + 1 := al_sz _ _
    have Z3 : ((w.alloc (.cells #[.int .i64 N, .slice pa 40 pc, .slice sa sl sc] 25)).alloc (.cells #[.int .i64 0, .slice none 0 0, .slice none 0 0] 25)).heap.size = w.heap.size + 2 := by rw [al_sz, Z2]
    rw [Z2] at B2
    generalize (w.alloc (.cells #[.int .i64 N, .slice pa 40 pc, .slice sa sl sc] 25)).alloc (.cells #[.int .i64 0, .slice none 0 0, .slice none 0 0] 25) = w2 at *
    clear Z2 Z3 c1 c2 hpc hsc hpm hsm hp40 hs20
    go_loopw [5, 6] (fun ov iv wr => ∃ k : Nat, k ≤ rs2.length ∧ iv = .int .i64 k ∧ Hid (SAcc wr (w.heap.size + 2) ov (rs2.take k)) ∧ Hid (wr.heap[w.heap.size]? = some (.cells #[.int .i64 N, .slice pa 40 pc, .slice sa sl sc] 25)) ∧ Hid (wr.heap[w.heap.size + 1]? = some (.cells #[.int .i64 0, .slice none 0 0, .slice none 0 0] 25)) ∧ Hid (Chg (fun _ => False) w wr)) (fun _ iv _ => rs2.length - (intOf iv).toNat)
    case atStart => exact ⟨0, Nat.zero_le _, rfl, ⟨rfl, Or.inl ⟨rfl, rfl⟩⟩, B1, B2, C2⟩
    case round =>
      clear B1 B2 C2
      obtain ⟨k, hk, rfl, hA, hb1, hb2, hC⟩ := hrel
      have r1 : wr.cell? ⟨w.heap.size, 0, none⟩ = some (.int .i64 N) := blk_cell hb1.out 0
      have r2 : wr.cell? ⟨w.heap.size, 1, none⟩ = some (.slice pa 40 pc) := blk_cell hb1.out 1
      have r3 : wr.cell? ⟨w.heap.size, 2, none⟩ = some (.slice sa sl sc) := blk_cell hb1.out 2
      by_cases hlt : k < rs2.length
      · obtain ⟨a', c', e', hr'⟩ := HRS.out
        rcases hr' with h0 | ⟨g, off, e2, hg, hcell⟩
        · rw [h0] at hlt; exact absurd hlt (Nat.not_lt_zero _)
        injection e' with e3 e4 e5
        subst e3
        subst e2
        clear e4 e5
        have q1 := hC.out.cell (fun h => h) (hcell k hlt).1
        have q2 := hC.out.cell (fun h => h) (hcell k hlt).2
        have tk := HTL.out k hlt
        generalize rs2[k] = y at *
        obtain ⟨y0, y1⟩ := y
        dsimp only at q1 q2
        have i2 : (0 : Int) ≤ (k : Int) := by omega
        have i3 : (k : Int) < (sl : Int) := by omega
        have hacc : (rs2.take k).length = k := by rw [List.length_take]; omega
        obtain ⟨acc, hac⟩ : ∃ acc, acc = rs2.take k := ⟨_, rfl⟩
        rw [← hac] at hA hacc tk
        have sz2 : w.heap.size + 2 ≤ wr.heap.size := by have := blk_lt hb2.out; omega
        have hA' : wr.ownsRow (w.heap.size + 2) 52 2 u5 acc.length (cells2 acc) := hA.out
        have HO := hide hA'
        have O3 := hide ((hA'.alloc (.cells #[.int .i64 y0, .int .i64 y1] 52)).drew)
        have C3 := hide ((hC.out.trans (al wr (.cells #[.int .i64 y0, .int .i64 y1] 52))).drew)
        have D1 := hide (blk_alloc (o' := .cells #[.int .i64 y0, .int .i64 y1] 52) hb1.out)
        have D2 := hide (blk_alloc (o' := .cells #[.int .i64 y0, .int .i64 y1] 52) hb2.out)
        have m1 := hide (show acc.length + 1 ≤ maxLen by unfold maxLen; omega)
        have m2 := hide (show (acc.length + 1) * 16 ≤ 140737488355328 by omega)
        have SZ := hide sz2
        have SZ1 := hide (show w.heap.size + 2 ≤ ((wr.alloc (.cells #[.int .i64 y0, .int .i64 y1] 52)).drew).heap.size from Nat.le_trans sz2 (al wr _).size)
        have SZ2 := hide (show ((wr.alloc (.cells #[.int .i64 y0, .int .i64 y1] 52)).drew).heap.size = wr.heap.size + 1 from al_sz _ _)
        have NB := hide (World.news_of_block (cs := #[.int .i64 y0, .int .i64 y1]) (t := 52) (fr := (0, 0)) (heap_alloc_new wr _))
        have KEEP := hide (fun (w1 : World) (hg : ((wr.alloc (.cells #[.int .i64 y0, .int .i64 y1] 52)).drew).grownBy w1 u5.ownBlock) => keepTo (r := w.heap.size) (g := g) O3.out hg (by omega) (by omega) ((al wr _).cell (fun h => h) r3) ((al wr _).cell (fun h => h) q1) ((al wr _).cell (fun h => h) q2))
        have TK := hide tk
        clear hA hA' hb1 hb2 hC hcell hac tk sz2 hacc
        go_wp2_with fail
        go_region_held3 (fun w' => w'.cell? ⟨w.heap.size, 2, none⟩ = some (.slice (some ⟨g, off, none⟩) sl sc) ∧ w'.cell? ⟨g, off + k * 2, none⟩ = some (.int .i64 y0) ∧ w'.cell? ⟨g, off + k * 2 + 1, none⟩ = some (.int .i64 y1))
          (first | (exact KEEP.out _ (by assumption)) | go_keep)
          ((refine step_append_lies _ (by rfl) _ _ _ (by rfl) (w.heap.size + 2) 52 i0 _ 2 16 Try.underlying49 hi0 hz0 hz1 hz2 rfl (by omega) u5 acc.length (cells2 acc) (by rfl) O3.out ⟨wr.heap.size, 0, none⟩ 1 1 [.int .i64 y0, .int .i64 y1] (by rfl) (by rfl) NB.out (by simp [Value.oneCell']) (by omega) m1.out m2.out SZ1.out (wr.heap.size + 1) SZ2.out ?_; intro gg cap w3 hown3 hgrow hat hlt3))
        have gB := own_chgNo (S := fun x => w.heap.size + 2 ≤ x) O3.out hgrow (fun x h => h)
        have D3 := hide (gB.blk (by omega) D1.out)
        have D4 := hide (gB.blk (by omega) D2.out)
        have C4 : Hid (Chg (fun _ => False) w w3) := hide ((C3.out.none.trans gB).mono (fun x hx h => by omega))
        have O4 : Hid (SAcc w3 (w.heap.size + 2) (.slice (some ⟨gg, 0, none⟩) (acc.length + 1) cap) (rs2.take (k + 1))) := hide (by
          unfold SAcc
          rw [TK.out, List.length_append, cells2_app]
          exact hown3)
        clear hown3 hgrow hat hlt3 O3 NB C3 D1 D2 gB SZ SZ1 SZ2 KEEP HO m1 m2
        go_wp2_with fail
        go_roundw
        case rel => exact ⟨k + 1, by omega, by go_num, O4, D3, D4, C4⟩
        case measure => simp [intOf]; omega
      · have hkl : k = rs2.length := by omega
        subst hkl
        have hA' : wr.ownsRow (w.heap.size + 2) 52 2 u5 rs2.length (cells2 rs2) := by have h := hA.out; rw [List.take_length] at h; exact h
        have IS := hide (irow_own hA')
        have IP := hide (HRP.out.chg hC.out (fun _ _ h => h))
        have IS0 := hide (HRS.out.chg hC.out (fun _ _ h => h))
        have szr : w.heap.size + 2 ≤ wr.heap.size := by have := blk_lt hb2.out; omega
        have nw := hide (new_any N (.slice pa 40 pc) u5 rp2 rs2 (by omega) (by omega) HI2.out wr.heap.size wr (Nat.le_refl _) (IP.out.up (by omega)) IS.out)
        clear hA hA'
        go_wp2_with fail
        refine nw.out.mono ?_
        rintro e w6 ⟨h6, g6⟩
        have E1 := hide (g6.blk (fun h => h) hb1.out)
        have E2 := hide (g6.blk (fun h => h) hb2.out)
        have JP := hide (IP.out.chg g6 (fun _ _ h => h))
        have JS := hide (IS0.out.chg g6 (fun _ _ h => h))
        have C6 := hide (hC.out.trans g6)
        clear nw IP IS IS0 hb1 hb2 hC g6 r1 r2 r3
        have r1 : w6.cell? ⟨w.heap.size, 0, none⟩ = some (.int .i64 N) := blk_cell E1.out 0
        have r2 : w6.cell? ⟨w.heap.size, 1, none⟩ = some (.slice pa 40 pc) := blk_cell E1.out 1
        have r3 : w6.cell? ⟨w.heap.size, 2, none⟩ = some (.slice sa sl sc) := blk_cell E1.out 2
        obtain ⟨code, hcode⟩ : ∃ code, newCode N rp2 rs2 = code := ⟨_, rfl⟩
        rw [hcode] at h6
        rcases h6 with ⟨h6, rfl⟩ | ⟨h6, b, B, su, rfl, hb, hB, hR, hK, hI⟩
        · go_wp2_with fail
          have KP := JP
          have KS := JS
          have C7 := C6
          have E4 := E2
          have E3 := E2.out
          have t0 : w6.cell? ⟨w.heap.size + 1, 0, none⟩ = some (.int .i64 0) := blk_cell E3 0
          have t1 : w6.cell? ⟨w.heap.size + 1, 1, none⟩ = some (.slice none 0 0) := blk_cell E3 1
          have t2 : w6.cell? ⟨w.heap.size + 1, 2, none⟩ = some (.slice none 0 0) := blk_cell E3 2
          have f0 := blk_free E3 0
          have f1 := blk_free E3 1
          have f2 := blk_free E3 2
          have l7 := blk_lt E3
          have zz := blk_set (blk_set (blk_set E3 0 (.int .i64 N)) 1 (.slice pa 40 pc)) 2 (.slice sa sl sc)
          have ZZ := hide zz
          have G8 := hide (((Chg.set w6 (w.heap.size + 1) 0 (.int .i64 N)).trans (Chg.set _ (w.heap.size + 1) 1 (.slice pa 40 pc))).trans (Chg.set _ (w.heap.size + 1) 2 (.slice sa sl sc)))
          clear zz E3 JP JS C6 E2 E1
          go_region_held3 (fun w' => w'.cell? ⟨w.heap.size, 0, none⟩ = some (.int .i64 N) ∧ w'.cell? ⟨w.heap.size, 1, none⟩ = some (.slice pa 40 pc) ∧ w'.cell? ⟨w.heap.size, 2, none⟩ = some (.slice sa sl sc)) (go_keep) (fail)
          go_wp2_with fail
          have z0 : ((((w6.setCell ⟨w.heap.size + 1, 0, none⟩ (.int .i64 N)).setCell ⟨w.heap.size + 1, 1, none⟩ (.slice pa 40 pc)).setCell ⟨w.heap.size + 1, 2, none⟩ (.slice sa sl sc)).drew).cell? ⟨w.heap.size + 1, 0, none⟩ = some (.int .i64 N) := blk_cell ZZ.out 0
          have z1 : ((((w6.setCell ⟨w.heap.size + 1, 0, none⟩ (.int .i64 N)).setCell ⟨w.heap.size + 1, 1, none⟩ (.slice pa 40 pc)).setCell ⟨w.heap.size + 1, 2, none⟩ (.slice sa sl sc)).drew).cell? ⟨w.heap.size + 1, 1, none⟩ = some (.slice pa 40 pc) := blk_cell ZZ.out 1
          have z2 : ((((w6.setCell ⟨w.heap.size + 1, 0, none⟩ (.int .i64 N)).setCell ⟨w.heap.size + 1, 1, none⟩ (.slice pa 40 pc)).setCell ⟨w.heap.size + 1, 2, none⟩ (.slice sa sl sc)).drew).cell? ⟨w.heap.size + 1, 2, none⟩ = some (.slice sa sl sc) := blk_cell ZZ.out 2
          have GD := hide (G8.out.drew)
          generalize (((w6.setCell ⟨w.heap.size + 1, 0, none⟩ (.int .i64 N)).setCell ⟨w.heap.size + 1, 1, none⟩ (.slice pa 40 pc)).setCell ⟨w.heap.size + 1, 2, none⟩ (.slice sa sl sc)).drew = w8 at *
          refine bodyPost_ret (fn := Try.f9) (v := .tuple #[.pointer none, .agg #[.int .i64 N, .slice pa 40 pc, .slice sa sl sc], .int .i64 code]) (by simp [results, Try.results9, go_sem, z0, z1, z2]) rfl ?_
          refine ⟨_, _, KP.out.chg GD.out (fun x hx e => by omega), KS.out.chg GD.out (fun x hx e => by omega), (C7.out.none.trans GD.out).mono (fun x hx e => by omega), Or.inl ⟨by rw [hcode]; exact h6, by rw [hcode]⟩⟩
        · have HR := hide hR
          have HK := hide hK
          have HI := hide hI
          clear hR hK hI
          go_wp2_with fail
          have KP := JP
          have KS := JS
          have C7 := C6
          have E4 := E2
          have E3 := E2.out
          have R7 := HR
          have K7 := HK
          have I7 := HI
          have t0 : w6.cell? ⟨w.heap.size + 1, 0, none⟩ = some (.int .i64 0) := blk_cell E3 0
          have t1 : w6.cell? ⟨w.heap.size + 1, 1, none⟩ = some (.slice none 0 0) := blk_cell E3 1
          have t2 : w6.cell? ⟨w.heap.size + 1, 2, none⟩ = some (.slice none 0 0) := blk_cell E3 2
          have f0 := blk_free E3 0
          have f1 := blk_free E3 1
          have f2 := blk_free E3 2
          have l7 := blk_lt E3
          have zz := blk_set (blk_set (blk_set E3 0 (.int .i64 N)) 1 (.slice pa 40 pc)) 2 (.slice sa sl sc)
          have ZZ := hide zz
          have G8 := hide (((Chg.set w6 (w.heap.size + 1) 0 (.int .i64 N)).trans (Chg.set _ (w.heap.size + 1) 1 (.slice pa 40 pc))).trans (Chg.set _ (w.heap.size + 1) 2 (.slice sa sl sc)))
          clear zz E3 JP JS C6 E2 E1
          go_region_held3 (fun w' => w'.cell? ⟨w.heap.size, 0, none⟩ = some (.int .i64 N) ∧ w'.cell? ⟨w.heap.size, 1, none⟩ = some (.slice pa 40 pc) ∧ w'.cell? ⟨w.heap.size, 2, none⟩ = some (.slice sa sl sc)) (go_keep) (fail)
          go_wp2_with fail
          have z0 : ((((w6.setCell ⟨w.heap.size + 1, 0, none⟩ (.int .i64 N)).setCell ⟨w.heap.size + 1, 1, none⟩ (.slice pa 40 pc)).setCell ⟨w.heap.size + 1, 2, none⟩ (.slice sa sl sc)).drew).cell? ⟨w.heap.size + 1, 0, none⟩ = some (.int .i64 N) := blk_cell ZZ.out 0
          have z1 : ((((w6.setCell ⟨w.heap.size + 1, 0, none⟩ (.int .i64 N)).setCell ⟨w.heap.size + 1, 1, none⟩ (.slice pa 40 pc)).setCell ⟨w.heap.size + 1, 2, none⟩ (.slice sa sl sc)).drew).cell? ⟨w.heap.size + 1, 1, none⟩ = some (.slice pa 40 pc) := blk_cell ZZ.out 1
          have z2 : ((((w6.setCell ⟨w.heap.size + 1, 0, none⟩ (.int .i64 N)).setCell ⟨w.heap.size + 1, 1, none⟩ (.slice pa 40 pc)).setCell ⟨w.heap.size + 1, 2, none⟩ (.slice sa sl sc)).drew).cell? ⟨w.heap.size + 1, 2, none⟩ = some (.slice sa sl sc) := blk_cell ZZ.out 2
          have GD := hide (G8.out.drew)
          generalize (((w6.setCell ⟨w.heap.size + 1, 0, none⟩ (.int .i64 N)).setCell ⟨w.heap.size + 1, 1, none⟩ (.slice pa 40 pc)).setCell ⟨w.heap.size + 1, 2, none⟩ (.slice sa sl sc)).drew = w8 at *
          refine bodyPost_ret (fn := Try.f9) (v := .tuple #[.pointer (some ⟨b, 0, none⟩), .agg #[.int .i64 N, .slice pa 40 pc, .slice sa sl sc], .int .i64 0]) (by simp [results, Try.results9, go_sem, z0, z1, z2]) rfl ?_
          refine ⟨_, _, KP.out.chg GD.out (fun x hx e => by omega), KS.out.chg GD.out (fun x hx e => by omega), (C7.out.none.trans GD.out).mono (fun x hx e => by omega), Or.inr ⟨by rw [hcode]; exact h6, b, B, su, rfl, by omega, hB, R7.out.chgQ (odd25 E4.out) E4.out ⟨by decide, by decide⟩ (by omega) GD.out, K7.out.chgQ E4.out GD.out, I7.out.chgQ (odd25 E4.out) GD.out⟩⟩
  · have c1 : (pl : Int) ≤ 40 := by omega
    have c2 : (20 : Int) < (sl : Int) := by omega
    obtain ⟨rp2, hrp⟩ : ∃ l, rp.take 40 = l := ⟨_, rfl⟩
    obtain ⟨rs2, hrs⟩ : ∃ l, rs.take 20 = l := ⟨_, rfl⟩
    have HRP : Hid (IRow w w.heap.size (.slice pa pl pc) rp2) := hide (by
      have h := HP.out; rw [HPL.out] at h; have h2 := h.cut (k := rp.length) (by have := HPL.out; omega)
      rw [← hrp]; rw [HPL.out]; rw [List.take_length] at h2; rw [List.take_of_length_le (by have := HPL.out; omega)]; exact h2)
    have HRS : Hid (IRow w w.heap.size (.slice sa 20 sc) rs2) := hide (by
      have h := HS.out; rw [HSL.out] at h; have h2 := h.cut (k := 20) (by have := HSL.out; omega)
      rw [← hrs]; exact h2)
    have HI2 : Hid (∀ s ∈ rs2, In64 s.1 ∧ In64 s.2) := hide (fun s h => HI.out s (by rw [← hrs] at h; exact List.mem_of_mem_take h))
    have lp2 : rp2.length ≤ 40 := by rw [← hrp, List.length_take]; omega
    have ls2 : rs2.length ≤ 20 := by rw [← hrs, List.length_take]; omega
    have ek : rs2.length = 20 := by have h := HSL.out; rw [← hrs, List.length_take]; omega
    rw [hrp, hrs]
    have TL : ∀ (k : Nat) (h : k < rs2.length), rs2.take (k + 1) = rs2.take k ++ [rs2[k]] := fun k h => List.take_succ_eq_append_getElem h
    have HTL := hide TL
    clear TL HP HS HPL HSL HI hrp hrs
    go_enter Try.func9, Try.ntmps9
    go_wp2_with fail
    have B1 := hide (blk_alloc (o' := .cells #[.int .i64 0, .slice none 0 0, .slice none 0 0] 25) (blk_new w (.cells #[.int .i64 N, .slice pa pl pc, .slice sa 20 sc] 25)))
    have B2 := hide (blk_new (w.alloc (.cells #[.int .i64 N, .slice pa pl pc, .slice sa 20 sc] 25)) (.cells #[.int .i64 0, .slice none 0 0, .slice none 0 0] 25))
    have C2 := hide ((al w (.cells #[.int .i64 N, .slice pa pl pc, .slice sa 20 sc] 25)).trans (al _ (.cells #[.int .i64 0, .slice none 0 0, .slice none 0 0] 25)))
    have Z2 : (w.alloc (.cells #[.int .i64 N, .slice pa pl pc, .slice sa 20 sc] 25)).heap.size = w.heap.size + 1 := al_sz _ _
    have Z3 : ((w.alloc (.cells #[.int .i64 N, .slice pa pl pc, .slice sa 20 sc] 25)).alloc (.cells #[.int .i64 0, .slice none 0 0, .slice none 0 0] 25)).heap.size = w.heap.size + 2 := by rw [al_sz, Z2]
    rw [Z2] at B2
    generalize (w.alloc (.cells #[.int .i64 N, .slice pa pl pc, .slice sa 20 sc] 25)).alloc (.cells #[.int .i64 0, .slice none 0 0, .slice none 0 0] 25) = w2 at *
    clear Z2 Z3 c1 c2 hpc hsc hpm hsm hp40 hs20
    go_loopw [5, 6] (fun ov iv wr => ∃ k : Nat, k ≤ rs2.length ∧ iv = .int .i64 k ∧ Hid (SAcc wr (w.heap.size + 2) ov (rs2.take k)) ∧ Hid (wr.heap[w.heap.size]? = some (.cells #[.int .i64 N, .slice pa pl pc, .slice sa 20 sc] 25)) ∧ Hid (wr.heap[w.heap.size + 1]? = some (.cells #[.int .i64 0, .slice none 0 0, .slice none 0 0] 25)) ∧ Hid (Chg (fun _ => False) w wr)) (fun _ iv _ => rs2.length - (intOf iv).toNat)
    case atStart => exact ⟨0, Nat.zero_le _, rfl, ⟨rfl, Or.inl ⟨rfl, rfl⟩⟩, B1, B2, C2⟩
    case round =>
      clear B1 B2 C2
      obtain ⟨k, hk, rfl, hA, hb1, hb2, hC⟩ := hrel
      have r1 : wr.cell? ⟨w.heap.size, 0, none⟩ = some (.int .i64 N) := blk_cell hb1.out 0
      have r2 : wr.cell? ⟨w.heap.size, 1, none⟩ = some (.slice pa pl pc) := blk_cell hb1.out 1
      have r3 : wr.cell? ⟨w.heap.size, 2, none⟩ = some (.slice sa 20 sc) := blk_cell hb1.out 2
      by_cases hlt : k < rs2.length
      · obtain ⟨a', c', e', hr'⟩ := HRS.out
        rcases hr' with h0 | ⟨g, off, e2, hg, hcell⟩
        · rw [h0] at hlt; exact absurd hlt (Nat.not_lt_zero _)
        injection e' with e3 e4 e5
        subst e3
        subst e2
        clear e4 e5
        have q1 := hC.out.cell (fun h => h) (hcell k hlt).1
        have q2 := hC.out.cell (fun h => h) (hcell k hlt).2
        have tk := HTL.out k hlt
        generalize rs2[k] = y at *
        obtain ⟨y0, y1⟩ := y
        dsimp only at q1 q2
        have i2 : (0 : Int) ≤ (k : Int) := by omega
        have i3 : (k : Int) < 20 := by omega
        have hacc : (rs2.take k).length = k := by rw [List.length_take]; omega
        obtain ⟨acc, hac⟩ : ∃ acc, acc = rs2.take k := ⟨_, rfl⟩
        rw [← hac] at hA hacc tk
        have sz2 : w.heap.size + 2 ≤ wr.heap.size := by have := blk_lt hb2.out; omega
        have hA' : wr.ownsRow (w.heap.size + 2) 52 2 u5 acc.length (cells2 acc) := hA.out
        have HO := hide hA'
        have O3 := hide ((hA'.alloc (.cells #[.int .i64 y0, .int .i64 y1] 52)).drew)
        have C3 := hide ((hC.out.trans (al wr (.cells #[.int .i64 y0, .int .i64 y1] 52))).drew)
        have D1 := hide (blk_alloc (o' := .cells #[.int .i64 y0, .int .i64 y1] 52) hb1.out)
        have D2 := hide (blk_alloc (o' := .cells #[.int .i64 y0, .int .i64 y1] 52) hb2.out)
        have m1 := hide (show acc.length + 1 ≤ maxLen by unfold maxLen; omega)
        have m2 := hide (show (acc.length + 1) * 16 ≤ 140737488355328 by omega)
        have SZ := hide sz2
        have SZ1 := hide (show w.heap.size + 2 ≤ ((wr.alloc (.cells #[.int .i64 y0, .int .i64 y1] 52)).drew).heap.size from Nat.le_trans sz2 (al wr _).size)
        have SZ2 := hide (show ((wr.alloc (.cells #[.int .i64 y0, .int .i64 y1] 52)).drew).heap.size = wr.heap.size + 1 from al_sz _ _)
        have NB := hide (World.news_of_block (cs := #[.int .i64 y0, .int .i64 y1]) (t := 52) (fr := (0, 0)) (heap_alloc_new wr _))
        have KEEP := hide (fun (w1 : World) (hg : ((wr.alloc (.cells #[.int .i64 y0, .int .i64 y1] 52)).drew).grownBy w1 u5.ownBlock) => keepTo (r := w.heap.size) (g := g) O3.out hg (by omega) (by omega) ((al wr _).cell (fun h => h) r3) ((al wr _).cell (fun h => h) q1) ((al wr _).cell (fun h => h) q2))
        have TK := hide tk
        clear hA hA' hb1 hb2 hC hcell hac tk sz2 hacc
        go_wp2_with fail
        go_region_held3 (fun w' => w'.cell? ⟨w.heap.size, 2, none⟩ = some (.slice (some ⟨g, off, none⟩) 20 sc) ∧ w'.cell? ⟨g, off + k * 2, none⟩ = some (.int .i64 y0) ∧ w'.cell? ⟨g, off + k * 2 + 1, none⟩ = some (.int .i64 y1))
          (first | (exact KEEP.out _ (by assumption)) | go_keep)
          ((refine step_append_lies _ (by rfl) _ _ _ (by rfl) (w.heap.size + 2) 52 i0 _ 2 16 Try.underlying49 hi0 hz0 hz1 hz2 rfl (by omega) u5 acc.length (cells2 acc) (by rfl) O3.out ⟨wr.heap.size, 0, none⟩ 1 1 [.int .i64 y0, .int .i64 y1] (by rfl) (by rfl) NB.out (by simp [Value.oneCell']) (by omega) m1.out m2.out SZ1.out (wr.heap.size + 1) SZ2.out ?_; intro gg cap w3 hown3 hgrow hat hlt3))
        have gB := own_chgNo (S := fun x => w.heap.size + 2 ≤ x) O3.out hgrow (fun x h => h)
        have D3 := hide (gB.blk (by omega) D1.out)
        have D4 := hide (gB.blk (by omega) D2.out)
        have C4 : Hid (Chg (fun _ => False) w w3) := hide ((C3.out.none.trans gB).mono (fun x hx h => by omega))
        have O4 : Hid (SAcc w3 (w.heap.size + 2) (.slice (some ⟨gg, 0, none⟩) (acc.length + 1) cap) (rs2.take (k + 1))) := hide (by
          unfold SAcc
          rw [TK.out, List.length_append, cells2_app]
          exact hown3)
        clear hown3 hgrow hat hlt3 O3 NB C3 D1 D2 gB SZ SZ1 SZ2 KEEP HO m1 m2
        go_wp2_with fail
        go_roundw
        case rel => exact ⟨k + 1, by omega, by go_num, O4, D3, D4, C4⟩
        case measure => simp [intOf]; omega
      · have hkl : k = rs2.length := by omega
        subst hkl
        have hA' : wr.ownsRow (w.heap.size + 2) 52 2 u5 rs2.length (cells2 rs2) := by have h := hA.out; rw [List.take_length] at h; exact h
        have IS := hide (irow_own hA')
        have IP := hide (HRP.out.chg hC.out (fun _ _ h => h))
        have IS0 := hide (HRS.out.chg hC.out (fun _ _ h => h))
        have szr : w.heap.size + 2 ≤ wr.heap.size := by have := blk_lt hb2.out; omega
        have nw := hide (new_any N (.slice pa pl pc) u5 rp2 rs2 (by omega) (by omega) HI2.out wr.heap.size wr (Nat.le_refl _) (IP.out.up (by omega)) IS.out)
        clear hA hA'
        go_wp2_with fail
        refine nw.out.mono ?_
        rintro e w6 ⟨h6, g6⟩
        have E1 := hide (g6.blk (fun h => h) hb1.out)
        have E2 := hide (g6.blk (fun h => h) hb2.out)
        have JP := hide (IP.out.chg g6 (fun _ _ h => h))
        have JS := hide (IS0.out.chg g6 (fun _ _ h => h))
        have C6 := hide (hC.out.trans g6)
        clear nw IP IS IS0 hb1 hb2 hC g6 r1 r2 r3
        have r1 : w6.cell? ⟨w.heap.size, 0, none⟩ = some (.int .i64 N) := blk_cell E1.out 0
        have r2 : w6.cell? ⟨w.heap.size, 1, none⟩ = some (.slice pa pl pc) := blk_cell E1.out 1
        have r3 : w6.cell? ⟨w.heap.size, 2, none⟩ = some (.slice sa 20 sc) := blk_cell E1.out 2
        obtain ⟨code, hcode⟩ : ∃ code, newCode N rp2 rs2 = code := ⟨_, rfl⟩
        rw [hcode] at h6
        rcases h6 with ⟨h6, rfl⟩ | ⟨h6, b, B, su, rfl, hb, hB, hR, hK, hI⟩
        · go_wp2_with fail
          have KP := JP
          have KS := JS
          have C7 := C6
          have E4 := E2
          have E3 := E2.out
          have t0 : w6.cell? ⟨w.heap.size + 1, 0, none⟩ = some (.int .i64 0) := blk_cell E3 0
          have t1 : w6.cell? ⟨w.heap.size + 1, 1, none⟩ = some (.slice none 0 0) := blk_cell E3 1
          have t2 : w6.cell? ⟨w.heap.size + 1, 2, none⟩ = some (.slice none 0 0) := blk_cell E3 2
          have f0 := blk_free E3 0
          have f1 := blk_free E3 1
          have f2 := blk_free E3 2
          have l7 := blk_lt E3
          have zz := blk_set (blk_set (blk_set E3 0 (.int .i64 N)) 1 (.slice pa pl pc)) 2 (.slice sa 20 sc)
          have ZZ := hide zz
          have G8 := hide (((Chg.set w6 (w.heap.size + 1) 0 (.int .i64 N)).trans (Chg.set _ (w.heap.size + 1) 1 (.slice pa pl pc))).trans (Chg.set _ (w.heap.size + 1) 2 (.slice sa 20 sc)))
          clear zz E3 JP JS C6 E2 E1
          go_region_held3 (fun w' => w'.cell? ⟨w.heap.size, 0, none⟩ = some (.int .i64 N) ∧ w'.cell? ⟨w.heap.size, 1, none⟩ = some (.slice pa pl pc) ∧ w'.cell? ⟨w.heap.size, 2, none⟩ = some (.slice sa 20 sc)) (go_keep) (fail)
          go_wp2_with fail
          have z0 : ((((w6.setCell ⟨w.heap.size + 1, 0, none⟩ (.int .i64 N)).setCell ⟨w.heap.size + 1, 1, none⟩ (.slice pa pl pc)).setCell ⟨w.heap.size + 1, 2, none⟩ (.slice sa 20 sc)).drew).cell? ⟨w.heap.size + 1, 0, none⟩ = some (.int .i64 N) := blk_cell ZZ.out 0
          have z1 : ((((w6.setCell ⟨w.heap.size + 1, 0, none⟩ (.int .i64 N)).setCell ⟨w.heap.size + 1, 1, none⟩ (.slice pa pl pc)).setCell ⟨w.heap.size + 1, 2, none⟩ (.slice sa 20 sc)).drew).cell? ⟨w.heap.size + 1, 1, none⟩ = some (.slice pa pl pc) := blk_cell ZZ.out 1
          have z2 : ((((w6.setCell ⟨w.heap.size + 1, 0, none⟩ (.int .i64 N)).setCell ⟨w.heap.size + 1, 1, none⟩ (.slice pa pl pc)).setCell ⟨w.heap.size + 1, 2, none⟩ (.slice sa 20 sc)).drew).cell? ⟨w.heap.size + 1, 2, none⟩ = some (.slice sa 20 sc) := blk_cell ZZ.out 2
          have GD := hide (G8.out.drew)
          generalize (((w6.setCell ⟨w.heap.size + 1, 0, none⟩ (.int .i64 N)).setCell ⟨w.heap.size + 1, 1, none⟩ (.slice pa pl pc)).setCell ⟨w.heap.size + 1, 2, none⟩ (.slice sa 20 sc)).drew = w8 at *
          refine bodyPost_ret (fn := Try.f9) (v := .tuple #[.pointer none, .agg #[.int .i64 N, .slice pa pl pc, .slice sa 20 sc], .int .i64 code]) (by simp [results, Try.results9, go_sem, z0, z1, z2]) rfl ?_
          refine ⟨_, _, KP.out.chg GD.out (fun x hx e => by omega), KS.out.chg GD.out (fun x hx e => by omega), (C7.out.none.trans GD.out).mono (fun x hx e => by omega), Or.inl ⟨by rw [hcode]; exact h6, by rw [hcode]⟩⟩
        · have HR := hide hR
          have HK := hide hK
          have HI := hide hI
          clear hR hK hI
          go_wp2_with fail
          have KP := JP
          have KS := JS
          have C7 := C6
          have E4 := E2
          have E3 := E2.out
          have R7 := HR
          have K7 := HK
          have I7 := HI
          have t0 : w6.cell? ⟨w.heap.size + 1, 0, none⟩ = some (.int .i64 0) := blk_cell E3 0
          have t1 : w6.cell? ⟨w.heap.size + 1, 1, none⟩ = some (.slice none 0 0) := blk_cell E3 1
          have t2 : w6.cell? ⟨w.heap.size + 1, 2, none⟩ = some (.slice none 0 0) := blk_cell E3 2
          have f0 := blk_free E3 0
          have f1 := blk_free E3 1
          have f2 := blk_free E3 2
          have l7 := blk_lt E3
          have zz := blk_set (blk_set (blk_set E3 0 (.int .i64 N)) 1 (.slice pa pl pc)) 2 (.slice sa 20 sc)
          have ZZ := hide zz
          have G8 := hide (((Chg.set w6 (w.heap.size + 1) 0 (.int .i64 N)).trans (Chg.set _ (w.heap.size + 1) 1 (.slice pa pl pc))).trans (Chg.set _ (w.heap.size + 1) 2 (.slice sa 20 sc)))
          clear zz E3 JP JS C6 E2 E1
          go_region_held3 (fun w' => w'.cell? ⟨w.heap.size, 0, none⟩ = some (.int .i64 N) ∧ w'.cell? ⟨w.heap.size, 1, none⟩ = some (.slice pa pl pc) ∧ w'.cell? ⟨w.heap.size, 2, none⟩ = some (.slice sa 20 sc)) (go_keep) (fail)
          go_wp2_with fail
          have z0 : ((((w6.setCell ⟨w.heap.size + 1, 0, none⟩ (.int .i64 N)).setCell ⟨w.heap.size + 1, 1, none⟩ (.slice pa pl pc)).setCell ⟨w.heap.size + 1, 2, none⟩ (.slice sa 20 sc)).drew).cell? ⟨w.heap.size + 1, 0, none⟩ = some (.int .i64 N) := blk_cell ZZ.out 0
          have z1 : ((((w6.setCell ⟨w.heap.size + 1, 0, none⟩ (.int .i64 N)).setCell ⟨w.heap.size + 1, 1, none⟩ (.slice pa pl pc)).setCell ⟨w.heap.size + 1, 2, none⟩ (.slice sa 20 sc)).drew).cell? ⟨w.heap.size + 1, 1, none⟩ = some (.slice pa pl pc) := blk_cell ZZ.out 1
          have z2 : ((((w6.setCell ⟨w.heap.size + 1, 0, none⟩ (.int .i64 N)).setCell ⟨w.heap.size + 1, 1, none⟩ (.slice pa pl pc)).setCell ⟨w.heap.size + 1, 2, none⟩ (.slice sa 20 sc)).drew).cell? ⟨w.heap.size + 1, 2, none⟩ = some (.slice sa 20 sc) := blk_cell ZZ.out 2
          have GD := hide (G8.out.drew)
          generalize (((w6.setCell ⟨w.heap.size + 1, 0, none⟩ (.int .i64 N)).setCell ⟨w.heap.size + 1, 1, none⟩ (.slice pa pl pc)).setCell ⟨w.heap.size + 1, 2, none⟩ (.slice sa 20 sc)).drew = w8 at *
          refine bodyPost_ret (fn := Try.f9) (v := .tuple #[.pointer (some ⟨b, 0, none⟩), .agg #[.int .i64 N, .slice pa pl pc, .slice sa 20 sc], .int .i64 0]) (by simp [results, Try.results9, go_sem, z0, z1, z2]) rfl ?_
          refine ⟨_, _, KP.out.chg GD.out (fun x hx e => by omega), KS.out.chg GD.out (fun x hx e => by omega), (C7.out.none.trans GD.out).mono (fun x hx e => by omega), Or.inr ⟨by rw [hcode]; exact h6, b, B, su, rfl, by omega, hB, R7.out.chgQ (odd25 E4.out) E4.out ⟨by decide, by decide⟩ (by omega) GD.out, K7.out.chgQ E4.out GD.out, I7.out.chgQ (odd25 E4.out) GD.out⟩⟩
  · have c1 : (pl : Int) ≤ 40 := by omega
    have c2 : (sl : Int) ≤ 20 := by omega
    obtain ⟨rp2, hrp⟩ : ∃ l, rp.take 40 = l := ⟨_, rfl⟩
    obtain ⟨rs2, hrs⟩ : ∃ l, rs.take 20 = l := ⟨_, rfl⟩
    have HRP : Hid (IRow w w.heap.size (.slice pa pl pc) rp2) := hide (by
      have h := HP.out; rw [HPL.out] at h; have h2 := h.cut (k := rp.length) (by have := HPL.out; omega)
      rw [← hrp]; rw [HPL.out]; rw [List.take_length] at h2; rw [List.take_of_length_le (by have := HPL.out; omega)]; exact h2)
    have HRS : Hid (IRow w w.heap.size (.slice sa sl sc) rs2) := hide (by
      have h := HS.out; rw [HSL.out] at h; have h2 := h.cut (k := rs.length) (by have := HSL.out; omega)
      rw [← hrs]; rw [HSL.out]; rw [List.take_length] at h2; rw [List.take_of_length_le (by have := HSL.out; omega)]; exact h2)
    have HI2 : Hid (∀ s ∈ rs2, In64 s.1 ∧ In64 s.2) := hide (fun s h => HI.out s (by rw [← hrs] at h; exact List.mem_of_mem_take h))
    have lp2 : rp2.length ≤ 40 := by rw [← hrp, List.length_take]; omega
    have ls2 : rs2.length ≤ 20 := by rw [← hrs, List.length_take]; omega
    have ek : rs2.length = sl := by have h := HSL.out; rw [← hrs, List.length_take]; omega
    rw [hrp, hrs]
    have TL : ∀ (k : Nat) (h : k < rs2.length), rs2.take (k + 1) = rs2.take k ++ [rs2[k]] := fun k h => List.take_succ_eq_append_getElem h
    have HTL := hide TL
    clear TL HP HS HPL HSL HI hrp hrs
    go_enter Try.func9, Try.ntmps9
    go_wp2_with fail
    have B1 := hide (blk_alloc (o' := .cells #[.int .i64 0, .slice none 0 0, .slice none 0 0] 25) (blk_new w (.cells #[.int .i64 N, .slice pa pl pc, .slice sa sl sc] 25)))
    have B2 := hide (blk_new (w.alloc (.cells #[.int .i64 N, .slice pa pl pc, .slice sa sl sc] 25)) (.cells #[.int .i64 0, .slice none 0 0, .slice none 0 0] 25))
    have C2 := hide ((al w (.cells #[.int .i64 N, .slice pa pl pc, .slice sa sl sc] 25)).trans (al _ (.cells #[.int .i64 0, .slice none 0 0, .slice none 0 0] 25)))
    have Z2 : (w.alloc (.cells #[.int .i64 N, .slice pa pl pc, .slice sa sl sc] 25)).heap.size = w.heap.size + 1 := al_sz _ _
    have Z3 : ((w.alloc (.cells #[.int .i64 N, .slice pa pl pc, .slice sa sl sc] 25)).alloc (.cells #[.int .i64 0, .slice none 0 0, .slice none 0 0] 25)).heap.size = w.heap.size + 2 := by rw [al_sz, Z2]
    rw [Z2] at B2
    generalize (w.alloc (.cells #[.int .i64 N, .slice pa pl pc, .slice sa sl sc] 25)).alloc (.cells #[.int .i64 0, .slice none 0 0, .slice none 0 0] 25) = w2 at *
    clear Z2 Z3 c1 c2 hpc hsc hpm hsm hp40 hs20
    go_loopw [5, 6] (fun ov iv wr => ∃ k : Nat, k ≤ rs2.length ∧ iv = .int .i64 k ∧ Hid (SAcc wr (w.heap.size + 2) ov (rs2.take k)) ∧ Hid (wr.heap[w.heap.size]? = some (.cells #[.int .i64 N, .slice pa pl pc, .slice sa sl sc] 25)) ∧ Hid (wr.heap[w.heap.size + 1]? = some (.cells #[.int .i64 0, .slice none 0 0, .slice none 0 0] 25)) ∧ Hid (Chg (fun _ => False) w wr)) (fun _ iv _ => rs2.length - (intOf iv).toNat)
    case atStart => exact ⟨0, Nat.zero_le _, rfl, ⟨rfl, Or.inl ⟨rfl, rfl⟩⟩, B1, B2, C2⟩
    case round =>
      clear B1 B2 C2
      obtain ⟨k, hk, rfl, hA, hb1, hb2, hC⟩ := hrel
      have r1 : wr.cell? ⟨w.heap.size, 0, none⟩ = some (.int .i64 N) := blk_cell hb1.out 0
      have r2 : wr.cell? ⟨w.heap.size, 1, none⟩ = some (.slice pa pl pc) := blk_cell hb1.out 1
      have r3 : wr.cell? ⟨w.heap.size, 2, none⟩ = some (.slice sa sl sc) := blk_cell hb1.out 2
      by_cases hlt : k < rs2.length
      · obtain ⟨a', c', e', hr'⟩ := HRS.out
        rcases hr' with h0 | ⟨g, off, e2, hg, hcell⟩
        · rw [h0] at hlt; exact absurd hlt (Nat.not_lt_zero _)
        injection e' with e3 e4 e5
        subst e3
        subst e2
        clear e4 e5
        have q1 := hC.out.cell (fun h => h) (hcell k hlt).1
        have q2 := hC.out.cell (fun h => h) (hcell k hlt).2
        have tk := HTL.out k hlt
        generalize rs2[k] = y at *
        obtain ⟨y0, y1⟩ := y
        dsimp only at q1 q2
        have i2 : (0 : Int) ≤ (k : Int) := by omega
        have i3 : (k : Int) < (sl : Int) := by omega
        have hacc : (rs2.take k).length = k := by rw [List.length_take]; omega
        obtain ⟨acc, hac⟩ : ∃ acc, acc = rs2.take k := ⟨_, rfl⟩
        rw [← hac] at hA hacc tk
        have sz2 : w.heap.size + 2 ≤ wr.heap.size := by have := blk_lt hb2.out; omega
        have hA' : wr.ownsRow (w.heap.size + 2) 52 2 u5 acc.length (cells2 acc) := hA.out
        have HO := hide hA'
        have O3 := hide ((hA'.alloc (.cells #[.int .i64 y0, .int .i64 y1] 52)).drew)
        have C3 := hide ((hC.out.trans (al wr (.cells #[.int .i64 y0, .int .i64 y1] 52))).drew)
        have D1 := hide (blk_alloc (o' := .cells #[.int .i64 y0, .int .i64 y1] 52) hb1.out)
        have D2 := hide (blk_alloc (o' := .cells #[.int .i64 y0, .int .i64 y1] 52) hb2.out)
        have m1 := hide (show acc.length + 1 ≤ maxLen by unfold maxLen; omega)
        have m2 := hide (show (acc.length + 1) * 16 ≤ 140737488355328 by omega)
        have SZ := hide sz2
        have SZ1 := hide (show w.heap.size + 2 ≤ ((wr.alloc (.cells #[.int .i64 y0, .int .i64 y1] 52)).drew).heap.size from Nat.le_trans sz2 (al wr _).size)
        have SZ2 := hide (show ((wr.alloc (.cells #[.int .i64 y0, .int .i64 y1] 52)).drew).heap.size = wr.heap.size + 1 from al_sz _ _)
        have NB := hide (World.news_of_block (cs := #[.int .i64 y0, .int .i64 y1]) (t := 52) (fr := (0, 0)) (heap_alloc_new wr _))
        have KEEP := hide (fun (w1 : World) (hg : ((wr.alloc (.cells #[.int .i64 y0, .int .i64 y1] 52)).drew).grownBy w1 u5.ownBlock) => keepTo (r := w.heap.size) (g := g) O3.out hg (by omega) (by omega) ((al wr _).cell (fun h => h) r3) ((al wr _).cell (fun h => h) q1) ((al wr _).cell (fun h => h) q2))
        have TK := hide tk
        clear hA hA' hb1 hb2 hC hcell hac tk sz2 hacc
        go_wp2_with fail
        go_region_held3 (fun w' => w'.cell? ⟨w.heap.size, 2, none⟩ = some (.slice (some ⟨g, off, none⟩) sl sc) ∧ w'.cell? ⟨g, off + k * 2, none⟩ = some (.int .i64 y0) ∧ w'.cell? ⟨g, off + k * 2 + 1, none⟩ = some (.int .i64 y1))
          (first | (exact KEEP.out _ (by assumption)) | go_keep)
          ((refine step_append_lies _ (by rfl) _ _ _ (by rfl) (w.heap.size + 2) 52 i0 _ 2 16 Try.underlying49 hi0 hz0 hz1 hz2 rfl (by omega) u5 acc.length (cells2 acc) (by rfl) O3.out ⟨wr.heap.size, 0, none⟩ 1 1 [.int .i64 y0, .int .i64 y1] (by rfl) (by rfl) NB.out (by simp [Value.oneCell']) (by omega) m1.out m2.out SZ1.out (wr.heap.size + 1) SZ2.out ?_; intro gg cap w3 hown3 hgrow hat hlt3))
        have gB := own_chgNo (S := fun x => w.heap.size + 2 ≤ x) O3.out hgrow (fun x h => h)
        have D3 := hide (gB.blk (by omega) D1.out)
        have D4 := hide (gB.blk (by omega) D2.out)
        have C4 : Hid (Chg (fun _ => False) w w3) := hide ((C3.out.none.trans gB).mono (fun x hx h => by omega))
        have O4 : Hid (SAcc w3 (w.heap.size + 2) (.slice (some ⟨gg, 0, none⟩) (acc.length + 1) cap) (rs2.take (k + 1))) := hide (by
          unfold SAcc
          rw [TK.out, List.length_append, cells2_app]
          exact hown3)
        clear hown3 hgrow hat hlt3 O3 NB C3 D1 D2 gB SZ SZ1 SZ2 KEEP HO m1 m2
        go_wp2_with fail
        go_roundw
        case rel => exact ⟨k + 1, by omega, by go_num, O4, D3, D4, C4⟩
        case measure => simp [intOf]; omega
      · have hkl : k = rs2.length := by omega
        subst hkl
        have hA' : wr.ownsRow (w.heap.size + 2) 52 2 u5 rs2.length (cells2 rs2) := by have h := hA.out; rw [List.take_length] at h; exact h
        have IS := hide (irow_own hA')
        have IP := hide (HRP.out.chg hC.out (fun _ _ h => h))
        have IS0 := hide (HRS.out.chg hC.out (fun _ _ h => h))
        have szr : w.heap.size + 2 ≤ wr.heap.size := by have := blk_lt hb2.out; omega
        have nw := hide (new_any N (.slice pa pl pc) u5 rp2 rs2 (by omega) (by omega) HI2.out wr.heap.size wr (Nat.le_refl _) (IP.out.up (by omega)) IS.out)
        clear hA hA'
        go_wp2_with fail
        refine nw.out.mono ?_
        rintro e w6 ⟨h6, g6⟩
        have E1 := hide (g6.blk (fun h => h) hb1.out)
        have E2 := hide (g6.blk (fun h => h) hb2.out)
        have JP := hide (IP.out.chg g6 (fun _ _ h => h))
        have JS := hide (IS0.out.chg g6 (fun _ _ h => h))
        have C6 := hide (hC.out.trans g6)
        clear nw IP IS IS0 hb1 hb2 hC g6 r1 r2 r3
        have r1 : w6.cell? ⟨w.heap.size, 0, none⟩ = some (.int .i64 N) := blk_cell E1.out 0
        have r2 : w6.cell? ⟨w.heap.size, 1, none⟩ = some (.slice pa pl pc) := blk_cell E1.out 1
        have r3 : w6.cell? ⟨w.heap.size, 2, none⟩ = some (.slice sa sl sc) := blk_cell E1.out 2
        obtain ⟨code, hcode⟩ : ∃ code, newCode N rp2 rs2 = code := ⟨_, rfl⟩
        rw [hcode] at h6
        rcases h6 with ⟨h6, rfl⟩ | ⟨h6, b, B, su, rfl, hb, hB, hR, hK, hI⟩
        · go_wp2_with fail
          have KP := JP
          have KS := JS
          have C7 := C6
          have E4 := E2
          have E3 := E2.out
          have t0 : w6.cell? ⟨w.heap.size + 1, 0, none⟩ = some (.int .i64 0) := blk_cell E3 0
          have t1 : w6.cell? ⟨w.heap.size + 1, 1, none⟩ = some (.slice none 0 0) := blk_cell E3 1
          have t2 : w6.cell? ⟨w.heap.size + 1, 2, none⟩ = some (.slice none 0 0) := blk_cell E3 2
          have f0 := blk_free E3 0
          have f1 := blk_free E3 1
          have f2 := blk_free E3 2
          have l7 := blk_lt E3
          have zz := blk_set (blk_set (blk_set E3 0 (.int .i64 N)) 1 (.slice pa pl pc)) 2 (.slice sa sl sc)
          have ZZ := hide zz
          have G8 := hide (((Chg.set w6 (w.heap.size + 1) 0 (.int .i64 N)).trans (Chg.set _ (w.heap.size + 1) 1 (.slice pa pl pc))).trans (Chg.set _ (w.heap.size + 1) 2 (.slice sa sl sc)))
          clear zz E3 JP JS C6 E2 E1
          go_region_held3 (fun w' => w'.cell? ⟨w.heap.size, 0, none⟩ = some (.int .i64 N) ∧ w'.cell? ⟨w.heap.size, 1, none⟩ = some (.slice pa pl pc) ∧ w'.cell? ⟨w.heap.size, 2, none⟩ = some (.slice sa sl sc)) (go_keep) (fail)
          go_wp2_with fail
          have z0 : ((((w6.setCell ⟨w.heap.size + 1, 0, none⟩ (.int .i64 N)).setCell ⟨w.heap.size + 1, 1, none⟩ (.slice pa pl pc)).setCell ⟨w.heap.size + 1, 2, none⟩ (.slice sa sl sc)).drew).cell? ⟨w.heap.size + 1, 0, none⟩ = some (.int .i64 N) := blk_cell ZZ.out 0
          have z1 : ((((w6.setCell ⟨w.heap.size + 1, 0, none⟩ (.int .i64 N)).setCell ⟨w.heap.size + 1, 1, none⟩ (.slice pa pl pc)).setCell ⟨w.heap.size + 1, 2, none⟩ (.slice sa sl sc)).drew).cell? ⟨w.heap.size + 1, 1, none⟩ = some (.slice pa pl pc) := blk_cell ZZ.out 1
          have z2 : ((((w6.setCell ⟨w.heap.size + 1, 0, none⟩ (.int .i64 N)).setCell ⟨w.heap.size + 1, 1, none⟩ (.slice pa pl pc)).setCell ⟨w.heap.size + 1, 2, none⟩ (.slice sa sl sc)).drew).cell? ⟨w.heap.size + 1, 2, none⟩ = some (.slice sa sl sc) := blk_cell ZZ.out 2
          have GD := hide (G8.out.drew)
          generalize (((w6.setCell ⟨w.heap.size + 1, 0, none⟩ (.int .i64 N)).setCell ⟨w.heap.size + 1, 1, none⟩ (.slice pa pl pc)).setCell ⟨w.heap.size + 1, 2, none⟩ (.slice sa sl sc)).drew = w8 at *
          refine bodyPost_ret (fn := Try.f9) (v := .tuple #[.pointer none, .agg #[.int .i64 N, .slice pa pl pc, .slice sa sl sc], .int .i64 code]) (by simp [results, Try.results9, go_sem, z0, z1, z2]) rfl ?_
          refine ⟨_, _, KP.out.chg GD.out (fun x hx e => by omega), KS.out.chg GD.out (fun x hx e => by omega), (C7.out.none.trans GD.out).mono (fun x hx e => by omega), Or.inl ⟨by rw [hcode]; exact h6, by rw [hcode]⟩⟩
        · have HR := hide hR
          have HK := hide hK
          have HI := hide hI
          clear hR hK hI
          go_wp2_with fail
          have KP := JP
          have KS := JS
          have C7 := C6
          have E4 := E2
          have E3 := E2.out
          have R7 := HR
          have K7 := HK
          have I7 := HI
          have t0 : w6.cell? ⟨w.heap.size + 1, 0, none⟩ = some (.int .i64 0) := blk_cell E3 0
          have t1 : w6.cell? ⟨w.heap.size + 1, 1, none⟩ = some (.slice none 0 0) := blk_cell E3 1
          have t2 : w6.cell? ⟨w.heap.size + 1, 2, none⟩ = some (.slice none 0 0) := blk_cell E3 2
          have f0 := blk_free E3 0
          have f1 := blk_free E3 1
          have f2 := blk_free E3 2
          have l7 := blk_lt E3
          have zz := blk_set (blk_set (blk_set E3 0 (.int .i64 N)) 1 (.slice pa pl pc)) 2 (.slice sa sl sc)
          have ZZ := hide zz
          have G8 := hide (((Chg.set w6 (w.heap.size + 1) 0 (.int .i64 N)).trans (Chg.set _ (w.heap.size + 1) 1 (.slice pa pl pc))).trans (Chg.set _ (w.heap.size + 1) 2 (.slice sa sl sc)))
          clear zz E3 JP JS C6 E2 E1
          go_region_held3 (fun w' => w'.cell? ⟨w.heap.size, 0, none⟩ = some (.int .i64 N) ∧ w'.cell? ⟨w.heap.size, 1, none⟩ = some (.slice pa pl pc) ∧ w'.cell? ⟨w.heap.size, 2, none⟩ = some (.slice sa sl sc)) (go_keep) (fail)
          go_wp2_with fail
          have z0 : ((((w6.setCell ⟨w.heap.size + 1, 0, none⟩ (.int .i64 N)).setCell ⟨w.heap.size + 1, 1, none⟩ (.slice pa pl pc)).setCell ⟨w.heap.size + 1, 2, none⟩ (.slice sa sl sc)).drew).cell? ⟨w.heap.size + 1, 0, none⟩ = some (.int .i64 N) := blk_cell ZZ.out 0
          have z1 : ((((w6.setCell ⟨w.heap.size + 1, 0, none⟩ (.int .i64 N)).setCell ⟨w.heap.size + 1, 1, none⟩ (.slice pa pl pc)).setCell ⟨w.heap.size + 1, 2, none⟩ (.slice sa sl sc)).drew).cell? ⟨w.heap.size + 1, 1, none⟩ = some (.slice pa pl pc) := blk_cell ZZ.out 1
          have z2 : ((((w6.setCell ⟨w.heap.size + 1, 0, none⟩ (.int .i64 N)).setCell ⟨w.heap.size + 1, 1, none⟩ (.slice pa pl pc)).setCell ⟨w.heap.size + 1, 2, none⟩ (.slice sa sl sc)).drew).cell? ⟨w.heap.size + 1, 2, none⟩ = some (.slice sa sl sc) := blk_cell ZZ.out 2
          have GD := hide (G8.out.drew)
          generalize (((w6.setCell ⟨w.heap.size + 1, 0, none⟩ (.int .i64 N)).setCell ⟨w.heap.size + 1, 1, none⟩ (.slice pa pl pc)).setCell ⟨w.heap.size + 1, 2, none⟩ (.slice sa sl sc)).drew = w8 at *
          refine bodyPost_ret (fn := Try.f9) (v := .tuple #[.pointer (some ⟨b, 0, none⟩), .agg #[.int .i64 N, .slice pa pl pc, .slice sa sl sc], .int .i64 0]) (by simp [results, Try.results9, go_sem, z0, z1, z2]) rfl ?_
          refine ⟨_, _, KP.out.chg GD.out (fun x hx e => by omega), KS.out.chg GD.out (fun x hx e => by omega), (C7.out.none.trans GD.out).mono (fun x hx e => by omega), Or.inr ⟨by rw [hcode]; exact h6, b, B, su, rfl, by omega, hB, R7.out.chgQ (odd25 E4.out) E4.out ⟨by decide, by decide⟩ (by omega) GD.out, K7.out.chgQ E4.out GD.out, I7.out.chgQ (odd25 E4.out) GD.out⟩⟩
end Go.Proofs.Ytdcpcemihpkkaaa
