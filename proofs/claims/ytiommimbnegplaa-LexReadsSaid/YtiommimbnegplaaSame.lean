/- The law's own helpers: of, Fault, same, known. -/
import Derived.Test.YtiommimbnegplaaSplit
import Derived.Deep.RegionHeld3
namespace Go.Proofs.Ytiommimbnegplaa
open Go.RowKit
set_option linter.unusedVariables false

theorem of_token (kd : Int) (t : ByteArray) (k : Int) (w : World) :
    Calls Try.prog 18 #[.agg #[.int .i64 kd, .string t, .int .i64 k]] w fun e w' => e = .returned (.agg #[.int .i64 kd, .string t, .int .i64 k]) ∧ Below w.heap.size w w' := by
  go_enter Try.func18, Try.ntmps18
  go_wp2_with fail
  refine bodyPost_ret (v := .agg #[.int .i64 kd, .string t, .int .i64 k]) (by simp [results, Try.results18, go_sem]) rfl ⟨rfl, ?_⟩
  go_grown

theorem fault_any (c l m : Int) (t : ByteArray) (w : World) :
    Calls Try.prog 12 #[.agg #[.int .i64 c, .int .i64 l, .int .i64 m, .string t]] w fun e w' => e = .returned (.agg #[.int .i64 c, .int .i64 l, .int .i64 m, .string t]) ∧ Below w.heap.size w w' := by
  go_enter Try.func12, Try.ntmps12
  go_wp2_with fail
  refine bodyPost_ret (v := .agg #[.int .i64 c, .int .i64 l, .int .i64 m, .string t]) (by simp [results, Try.results12, go_sem]) rfl ⟨rfl, ?_⟩
  go_grown

def kA : ByteArray := ⟨#[102, 32, 120, 32, 45, 62, 32, 49, 50, 32, 35, 32, 121]⟩
theorem kA_eq : lexG kA (kA.size + 1) 0 false = ([(1, ⟨#[102]⟩, 0), (1, ⟨#[120]⟩, 2), (3, ⟨#[45, 62]⟩, 4), (2, ⟨#[49, 50]⟩, 7)], none) := by kernel_rfl
def kB : ByteArray := ⟨#[97, 45, 98]⟩
theorem kB_eq : lexG kB (kB.size + 1) 0 false = ([(1, ⟨#[97]⟩, 0)], some (3, 1, ⟨#[45]⟩)) := by kernel_rfl
theorem kB_mark : markOf (kB.data.toList.take 1) = (1, 2) := by kernel_rfl

theorem cellsOf_get (ts : List Tok) (i : Nat) (h : i < ts.length) : (cellsOf ts)[i * 3]? = some (.int .i64 ts[i].1) ∧ (cellsOf ts)[i * 3 + 1]? = some (.string ts[i].2.1) ∧ (cellsOf ts)[i * 3 + 2]? = some (.int .i64 (ts[i].2.2 : Int)) := by
  induction ts generalizing i with
  | nil => simp at h
  | cons t r ih =>
    have e : cellsOf (t :: r) = [.int .i64 t.1, .string t.2.1, .int .i64 (t.2.2 : Int)] ++ cellsOf r := rfl
    cases i with
    | zero => rw [e]; simp
    | succ i =>
      have h' : i < r.length := by simpa using h
      obtain ⟨a, b, c⟩ := ih i h'
      have l3 : ([.int .i64 t.1, .string t.2.1, .int .i64 (t.2.2 : Int)] : List Value).length = 3 := rfl
      rw [e, List.getElem?_append_right (by rw [l3]; omega), List.getElem?_append_right (by rw [l3]; omega), List.getElem?_append_right (by rw [l3]; omega)]
      rw [l3, show (i + 1) * 3 - 3 = i * 3 by omega, show (i + 1) * 3 + 1 - 3 = i * 3 + 1 by omega, show (i + 1) * 3 + 2 - 3 = i * 3 + 2 by omega]
      simpa using ⟨a, b, c⟩

/-- a row of tokens as a caller reads it -/
def TokRow (w : World) (g : Nat) (ts : List Tok) : Prop :=
  ∀ i (h : i < ts.length), w.cell? ⟨g, i * 3, none⟩ = some (.int .i64 ts[i].1) ∧ w.cell? ⟨g, i * 3 + 1, none⟩ = some (.string ts[i].2.1) ∧ w.cell? ⟨g, i * 3 + 2, none⟩ = some (.int .i64 (ts[i].2.2 : Int))

theorem tokRow_of (w : World) (base : Nat) (e : TypeId) (g : Nat) (cap : Nat) (ts : List Tok) (h : w.ownsRow base e 3 (.slice (some ⟨g, 0, none⟩) ts.length cap) ts.length (cellsOf ts)) : TokRow w g ts := by
  intro i hi
  obtain ⟨a, b, c⟩ := cellsOf_get ts i hi
  have hc := h.cells (g := g) rfl
  have ha := hc _ _ a
  have hb := hc _ _ b
  have hcc := hc _ _ c
  have hadd : ∀ j, (⟨g, 0, none⟩ : Addr).add j = ⟨g, j, none⟩ := by
    intro j; unfold Addr.add; split <;> simp_all
  rw [hadd] at ha hb hcc
  exact ⟨ha, hb, hcc⟩

theorem same_row (ga gb ca cb : Nat) (ts : List Tok) (hn : ts.length ≤ 100000) (w : World) (ha : TokRow w ga ts) (hb : TokRow w gb ts) (hga : ga < w.heap.size) (hgb : gb < w.heap.size) :
    Calls Try.prog 11 #[.slice (some ⟨ga, 0, none⟩) ts.length ca, .slice (some ⟨gb, 0, none⟩) ts.length cb] w fun e w' => e = .returned (.bool true) ∧ Below w.heap.size w w' := by
  have HA := hide ha
  have HB := hide hb
  have en : (((ts.length : Int)) != ((ts.length : Int))) = false := by simp
  clear ha hb
  go_enter Try.func11, Try.ntmps11
  go_wp2_with fail
  go_loopw [5] (fun i wr => ∃ k : Nat, k ≤ ts.length ∧ i = .int .i64 k ∧ Hid (Below w.heap.size w wr)) (fun i _ => ts.length - (intOf i).toNat)
  case atStart => exact ⟨0, Nat.zero_le _, rfl, Below.refl _ _⟩
  case round =>
    obtain ⟨k, hk, rfl, hB⟩ := hrel
    by_cases hlt : k < ts.length
    · obtain ⟨a0, a1, a2⟩ := HA.out k hlt
      obtain ⟨b0, b1, b2⟩ := HB.out k hlt
      have A0 := (hB.out.cell (p := ⟨ga, k * 3, none⟩) hga).trans a0
      have A1 := (hB.out.cell (p := ⟨ga, k * 3 + 1, none⟩) hga).trans a1
      have A2 := (hB.out.cell (p := ⟨ga, k * 3 + 2, none⟩) hga).trans a2
      have B0 := (hB.out.cell (p := ⟨gb, k * 3, none⟩) hgb).trans b0
      have B1 := (hB.out.cell (p := ⟨gb, k * 3 + 1, none⟩) hgb).trans b1
      have B2 := (hB.out.cell (p := ⟨gb, k * 3 + 2, none⟩) hgb).trans b2
      clear a0 a1 a2 b0 b1 b2
      have hgw : w.heap.size ≤ wr.heap.size := hB.out.size
      have hltI : (k : Int) < (ts.length : Int) := by omega
      generalize ts[k].1 = t0 at *
      generalize ts[k].2.1 = t1 at *
      generalize (ts[k].2.2 : Int) = t2 at *
      have ofc := hide (fun w => of_token t0 t1 t2 w)
      go_wp2_with fail
      go_region_held3 (fun w' => w'.cell? ⟨ga, k * 3, none⟩ = some (.int .i64 t0) ∧ w'.cell? ⟨ga, k * 3 + 1, none⟩ = some (.string t1) ∧ w'.cell? ⟨ga, k * 3 + 2, none⟩ = some (.int .i64 t2) ∧
          w'.cell? ⟨gb, k * 3, none⟩ = some (.int .i64 t0) ∧ w'.cell? ⟨gb, k * 3 + 1, none⟩ = some (.string t1) ∧ w'.cell? ⟨gb, k * 3 + 2, none⟩ = some (.int .i64 t2))
        (go_keep)
        (first
          | (go_at_call 18; refine (ofc.out _).mono ?_; rintro e w2 ⟨rfl, hv2⟩; have DA0 := (hv2.cell (p := ⟨ga, k * 3, none⟩) (by show ga < wr.heap.size; omega)).trans A0; have DA1 := (hv2.cell (p := ⟨ga, k * 3 + 1, none⟩) (by show ga < wr.heap.size; omega)).trans A1; have DA2 := (hv2.cell (p := ⟨ga, k * 3 + 2, none⟩) (by show ga < wr.heap.size; omega)).trans A2; have DB0 := (hv2.cell (p := ⟨gb, k * 3, none⟩) (by show gb < wr.heap.size; omega)).trans B0; have DB1 := (hv2.cell (p := ⟨gb, k * 3 + 1, none⟩) (by show gb < wr.heap.size; omega)).trans B1; have DB2 := (hv2.cell (p := ⟨gb, k * 3 + 2, none⟩) (by show gb < wr.heap.size; omega)).trans B2; have HV2 := hide hv2; clear hv2))
      go_wp2_with fail
      go_roundw
      case rel => exact ⟨k + 1, by omega, by go_num, hB.out.drew.trans (HV2.out.mono (by show w.heap.size ≤ wr.heap.size; omega))⟩
      case measure => simp [intOf]; omega
    · go_wp2_with fail
      go_ret
      exact ⟨rfl, hB.out⟩

theorem same_nil (w : World) :
    Calls Try.prog 11 #[.slice none 0 0, .slice none 0 0] w fun e w' => e = .returned (.bool true) ∧ Below w.heap.size w w' := by
  go_enter Try.func11, Try.ntmps11
  go_wp2_with fail
  refine wp_loop_rounds 1 ?_
  rw [rounds_succ]
  go_wp2_with fail
  go_ret
  exact ⟨rfl, Below.refl _ _⟩

theorem known_any (w : World) : Calls Try.prog 10 #[] w fun e w' => e = .returned (.bool true) ∧ Below w.heap.size w w' := by
  have ka : ∀ w, Calls Try.prog 8 #[.string ⟨#[102, 32, 120, 32, 45, 62, 32, 49, 50, 32, 35, 32, 121]⟩] w fun e w' =>
      (∃ g cap, e = .returned (.tuple #[.slice (some ⟨g, 0, none⟩) 4 cap, .agg #[.int .i64 0, .int .i64 0, .int .i64 0, .string ⟨#[]⟩]]) ∧ g < w'.heap.size ∧ TokRow w' g [(1, ⟨#[102]⟩, 0), (1, ⟨#[120]⟩, 2), (3, ⟨#[45, 62]⟩, 4), (2, ⟨#[49, 50]⟩, 7)]) ∧ Below w.heap.size w w' := by
    intro w
    refine (split_any kA (by decide) w).mono ?_
    rintro e w' ⟨⟨v, he, ho⟩, hB⟩
    rw [kA_eq] at he ho
    refine ⟨?_, hB⟩
    have ho' : w'.ownsRow (w.heap.size + 4) 46 3 v 4 (cellsOf [(1, ⟨#[102]⟩, 0), (1, ⟨#[120]⟩, 2), (3, ⟨#[45, 62]⟩, 4), (2, ⟨#[49, 50]⟩, 7)]) := ho
    obtain ⟨h1, h2⟩ := id ho'
    rcases h2 with ⟨_, h3⟩ | ⟨g, cap, cur, rfl, h3⟩
    · cases h3
    · exact ⟨g, cap, he, (ho'.lt g rfl).2, tokRow_of w' _ 46 g cap [(1, ⟨#[102]⟩, 0), (1, ⟨#[120]⟩, 2), (3, ⟨#[45, 62]⟩, 4), (2, ⟨#[49, 50]⟩, 7)] ho'⟩
  have kb : ∀ w, Calls Try.prog 8 #[.string ⟨#[97, 45, 98]⟩] w fun e w' =>
      e = .returned (.tuple #[.slice none 0 0, .agg #[.int .i64 3, .int .i64 1, .int .i64 2, .string ⟨#[45]⟩]]) ∧ Below w.heap.size w w' := by
    intro w
    refine (split_any kB (by decide) w).mono ?_
    rintro e w' ⟨⟨v, he, ho⟩, hB⟩
    rw [kB_eq] at he
    refine ⟨?_, hB⟩
    have he' : e = .returned (.tuple #[.slice none 0 0, .agg #[.int .i64 3, .int .i64 (markOf (kB.data.toList.take 1)).1, .int .i64 (markOf (kB.data.toList.take 1)).2, .string ⟨#[45]⟩]]) := he
    rw [kB_mark] at he'
    exact he'
  have KA := hide ka
  have KB := hide kb
  clear ka kb
  go_enter Try.func10, Try.ntmps10
  go_wp2_with fail
  refine (KA.out _).mono ?_
  rintro e w1 ⟨⟨g, cap, rfl, hg, hrow⟩, hB1⟩
  go_wp2_with fail
  refine (KB.out _).mono ?_
  rintro e w2 ⟨rfl, hB2⟩
  have hsz : (w1.alloc (.cells #[.int .i64 0, .int .i64 0, .int .i64 0, .string ⟨#[]⟩] 27)).heap.size = w1.heap.size + 1 := by simp
  have hB1' : Below w.heap.size w w2 := (hB1.alloc hB1.size _).trans (hB2.mono (by rw [hsz]; have := hB1.size; omega))
  have k0 := blk_new w1 (.cells #[.int .i64 0, .int .i64 0, .int .i64 0, .string ⟨#[]⟩] 27)
  have k1 : w2.heap[w1.heap.size]? = _ := (hB2.block w1.heap.size (by rw [hsz]; omega)).trans k0
  have c0 := blk_cell k1 0
  have l1 := blk_lt k1
  have l2 : g < w2.heap.size := by omega
  have tr : TokRow w2 g [(1, ⟨#[102]⟩, 0), (1, ⟨#[120]⟩, 2), (3, ⟨#[45, 62]⟩, 4), (2, ⟨#[49, 50]⟩, 7)] := by
    intro i hi
    obtain ⟨a, b, c⟩ := hrow i hi
    have al : ∀ o v, w1.cell? ⟨g, o, none⟩ = some v → w2.cell? ⟨g, o, none⟩ = some v := fun o v h =>
      (hB2.cell (p := ⟨g, o, none⟩) (by show g < _; rw [hsz]; omega)).trans ((World.cell?_alloc_past _ _ _ hg).trans h)
    exact ⟨al _ _ a, al _ _ b, al _ _ c⟩
  have r7 : w2.cell? ⟨g, 7, none⟩ = some (.string ⟨#[45, 62]⟩) := (tr 2 (by decide)).2.1
  have r9 : w2.cell? ⟨g, 9, none⟩ = some (.int .i64 2) := (tr 3 (by decide)).1
  have r11 : w2.cell? ⟨g, 11, none⟩ = some (.int .i64 7) := (tr 3 (by decide)).2.2
  have HB := hide hB1'
  clear k0 k1 hrow tr hB1 hB2 hB1' hsz
  have hws := HB.out.size
  go_wp2_with fail
  go_ret
  exact ⟨rfl, HB.out.alloc (by omega) _⟩

end Go.Proofs.Ytiommimbnegplaa
