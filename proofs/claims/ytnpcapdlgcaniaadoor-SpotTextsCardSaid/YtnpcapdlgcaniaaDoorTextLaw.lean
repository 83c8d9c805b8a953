/- Paths as texts: what the two parsers make of a text, as plain functions of lists; that they agree; that they undo the text. -/
import Derived.Test.YtnpcapdlgcaniaaDoorNum66
import Derived.Lib.SplitLaws
import Derived.Lib.Join
namespace Go.Proofs.YtnpcapdlgcaniaaDoor
set_option linter.unusedVariables false
set_option linter.unusedSimpArgs false

def dig (c : UInt8) : Bool := !(decide (c < 48) || decide (57 < c))
def valD : List UInt8 → Int → Int
  | [], n => n
  | c :: r, n => valD r (10 * n + ((c.toNat : Int) - 48))
def badN (p : List UInt8) : Bool := (p.isEmpty || decide (3 < p.length)) || (decide (p.head? = some 48) && decide (1 < p.length))
def numL (p : List UInt8) : Option Int := if badN p then none else if p.all dig then some (valD p 0) else none
def grpD (p : List UInt8) (n : Int) (d : Nat) : Option Int := if p.all dig && (decide (0 < d + p.length) && decide (d + p.length ≤ 3)) then some (valD p n) else none
def grpL (p : List UInt8) : Option Int := grpD p 0 0

theorem dig_iff (c : UInt8) : dig c = true ↔ 48 ≤ c.toNat ∧ c.toNat ≤ 57 := by
  unfold dig
  simp [UInt8.lt_iff_toNat_lt]
theorem dig_form {c : UInt8} (h : dig c = true) : ∃ x : Nat, x < 10 ∧ c = 48 + UInt8.ofNat x ∧ c.toNat = 48 + x := by
  have h1 := (dig_iff c).1 h
  refine ⟨c.toNat - 48, by omega, ?_, by omega⟩
  apply UInt8.toNat_inj.1
  rw [UInt8.toNat_add]
  have e : (UInt8.ofNat (c.toNat - 48)).toNat = c.toNat - 48 := by rw [UInt8.toNat_ofNat']; omega
  rw [e]
  show c.toNat = (48 + (c.toNat - 48)) % 256
  omega
theorem form_dig {x : Nat} (h : x < 10) : dig (48 + UInt8.ofNat x) = true ∧ (48 + UInt8.ofNat x).toNat = 48 + x := by
  have e : (48 + UInt8.ofNat x).toNat = 48 + x := by
    rw [UInt8.toNat_add, UInt8.toNat_ofNat']
    show (48 + x % 256) % 256 = 48 + x
    omega
  exact ⟨(dig_iff _).2 (by omega), e⟩

theorem dec1 {x : Nat} (h : x < 10) : Lib.decDigits x = [48 + UInt8.ofNat x] := by
  rw [dec_step, if_pos (by omega), show x % 10 = x by omega]; rfl
theorem dec2 {x y : Nat} (h : x < 10) (h0 : x ≠ 0) (hy : y < 10) : Lib.decDigits (10 * x + y) = [48 + UInt8.ofNat x, 48 + UInt8.ofNat y] := by
  rw [dec_step, if_neg (by omega), show (10 * x + y) / 10 = x by omega, show (10 * x + y) % 10 = y by omega, dec1 h]; rfl
theorem dec3 {x y z : Nat} (h : x < 10) (h0 : x ≠ 0) (hy : y < 10) (hz : z < 10) : Lib.decDigits (10 * (10 * x + y) + z) = [48 + UInt8.ofNat x, 48 + UInt8.ofNat y, 48 + UInt8.ofNat z] := by
  rw [dec_step, if_neg (by omega), show (10 * (10 * x + y) + z) / 10 = 10 * x + y by omega, show (10 * (10 * x + y) + z) % 10 = z by omega, dec2 h h0 hy]; rfl

theorem form_ne {x : Nat} (h : x < 10) (h0 : x ≠ 0) : (48 + UInt8.ofNat x) ≠ 48 := by
  intro e
  have := (form_dig h).2
  rw [e] at this
  have e2 : (48 : UInt8).toNat = 48 := rfl
  omega

theorem num_itoa (v : Int) (h0 : 0 ≤ v) (h1 : v ≤ 999) : numL (Lib.itoa v) = some v := by
  obtain ⟨n, rfl⟩ : ∃ n : Nat, v = n := ⟨v.toNat, by omega⟩
  rw [Lib.itoa_nonneg]
  by_cases a : n < 10
  · rw [dec1 a]
    obtain ⟨d, e⟩ := form_dig a
    simp only [numL, badN, List.all_cons, List.all_nil, d, valD, e]
    simp
    omega
  · by_cases b : n < 100
    · obtain ⟨x, y, hx, hx0, hy, rfl⟩ : ∃ x y, x < 10 ∧ x ≠ 0 ∧ y < 10 ∧ n = 10 * x + y := ⟨n / 10, n % 10, by omega, by omega, by omega, by omega⟩
      rw [dec2 hx hx0 hy]
      obtain ⟨d, e⟩ := form_dig hx
      obtain ⟨d', e'⟩ := form_dig hy
      have ne := form_ne hx hx0
      simp only [numL, badN, List.all_cons, List.all_nil, d, d', valD, e, e']
      simp [ne]
      omega
    · obtain ⟨x, y, z, hx, hx0, hy, hz, rfl⟩ : ∃ x y z, x < 10 ∧ x ≠ 0 ∧ y < 10 ∧ z < 10 ∧ n = 10 * (10 * x + y) + z := ⟨n / 100, n / 10 % 10, n % 10, by omega, by omega, by omega, by omega, by omega⟩
      rw [dec3 hx hx0 hy hz]
      obtain ⟨d, e⟩ := form_dig hx
      obtain ⟨d', e'⟩ := form_dig hy
      obtain ⟨d'', e''⟩ := form_dig hz
      have ne := form_ne hx hx0
      simp only [numL, badN, List.all_cons, List.all_nil, d, d', d'', valD, e, e', e'']
      simp [ne]
      omega

theorem num_some {p : List UInt8} {v : Int} (h : numL p = some v) : 0 ≤ v ∧ v ≤ 999 ∧ Lib.itoa v = p := by
  unfold numL at h
  split at h
  · cases h
  · rename_i hb
    split at h
    · rename_i hd
      cases h
      match p, hb, hd with
      | [], hb, _ => exact absurd rfl hb
      | [a], hb, hd =>
        simp only [List.all_cons, List.all_nil, Bool.and_true] at hd
        obtain ⟨x, hx, e, e'⟩ := dig_form hd
        have ev : valD [a] 0 = (x : Int) := by simp only [valD, e']; omega
        rw [ev, Lib.itoa_nonneg, dec1 hx, e]
        exact ⟨by omega, by omega, rfl⟩
      | [a, b], hb, hd =>
        simp only [List.all_cons, List.all_nil, Bool.and_true, Bool.and_eq_true] at hd
        obtain ⟨x, hx, e, e'⟩ := dig_form hd.1
        obtain ⟨y, hy, f, f'⟩ := dig_form hd.2
        have hx0 : x ≠ 0 := by
          intro h0
          subst h0
          apply hb
          rw [e]
          rfl
        have ev : valD [a, b] 0 = ((10 * x + y : Nat) : Int) := by simp only [valD, e', f']; omega
        rw [ev, Lib.itoa_nonneg, dec2 hx hx0 hy, e, f]
        exact ⟨by omega, by omega, rfl⟩
      | [a, b, c], hb, hd =>
        simp only [List.all_cons, List.all_nil, Bool.and_true, Bool.and_eq_true] at hd
        obtain ⟨x, hx, e, e'⟩ := dig_form hd.1
        obtain ⟨y, hy, f, f'⟩ := dig_form hd.2.1
        obtain ⟨z, hz, g, g'⟩ := dig_form hd.2.2
        have hx0 : x ≠ 0 := by
          intro h0
          subst h0
          apply hb
          rw [e]
          rfl
        have ev : valD [a, b, c] 0 = ((10 * (10 * x + y) + z : Nat) : Int) := by simp only [valD, e', f', g']; omega
        rw [ev, Lib.itoa_nonneg, dec3 hx hx0 hy hz, e, f, g]
        exact ⟨by omega, by omega, rfl⟩
      | a :: b :: c :: d :: r, hb, _ =>
        exfalso
        apply hb
        simp [badN]
    · cases h

theorem num_grp {p : List UInt8} {v : Int} (h : numL p = some v) : grpL p = some v := by
  unfold numL at h
  split at h
  · cases h
  · rename_i hb
    split at h
    · rename_i hd
      have h1 : p ≠ [] := by rintro rfl; exact hb rfl
      have h2 : ¬ 3 < p.length := by intro h3; apply hb; simp [badN, h3]
      have h3 : 0 < p.length := List.length_pos_iff.2 h1
      unfold grpL grpD
      rw [if_pos (by simp only [hd]; simp; omega), ← h]
    · cases h
theorem valD_nonneg : ∀ (p : List UInt8) (n : Int), 0 ≤ n → p.all dig = true → 0 ≤ valD p n
  | [], n, h, _ => h
  | c :: r, n, h, hd => by
    simp only [List.all_cons, Bool.and_eq_true] at hd
    have := (dig_iff c).1 hd.1
    exact valD_nonneg r _ (by omega) hd.2
theorem grp_range {p : List UInt8} {v : Int} (h : grpL p = some v) : 0 ≤ v ∧ v ≤ 999 := by
  unfold grpL grpD at h
  split at h
  · rename_i hb
    simp only [Bool.and_eq_true, decide_eq_true_eq] at hb
    obtain ⟨hd, h0, h3⟩ := hb
    cases h
    refine ⟨valD_nonneg p 0 (by omega) hd, ?_⟩
    match p, hd, h0, h3 with
    | [], _, h0, _ => simp at h0
    | [a], hd, _, _ =>
      simp only [List.all_cons, List.all_nil, Bool.and_true] at hd
      have := (dig_iff a).1 hd
      simp only [valD]; omega
    | [a, b], hd, _, _ =>
      simp only [List.all_cons, List.all_nil, Bool.and_true, Bool.and_eq_true] at hd
      have := (dig_iff a).1 hd.1
      have := (dig_iff b).1 hd.2
      simp only [valD]; omega
    | [a, b, c], hd, _, _ =>
      simp only [List.all_cons, List.all_nil, Bool.and_true, Bool.and_eq_true] at hd
      have := (dig_iff a).1 hd.1
      have := (dig_iff b).1 hd.2.1
      have := (dig_iff c).1 hd.2.2
      simp only [valD]; omega
    | a :: b :: c :: d :: r, _, _, h3 => simp at h3
  · cases h
theorem num_iff (p : List UInt8) (v : Int) : numL p = some v ↔ grpL p = some v ∧ Lib.itoa v = p := by
  constructor
  · exact fun h => ⟨num_grp h, (num_some h).2.2⟩
  · rintro ⟨h, rfl⟩
    have := grp_range h
    exact num_itoa v this.1 this.2

/-- cut at the dots -/
def cutL : List UInt8 → List (List UInt8)
  | [] => [[]]
  | b :: r => if b = 46 then [] :: cutL r else match cutL r with | [] => [[b]] | p :: ps => (b :: p) :: ps
theorem cutL_ne : ∀ s, cutL s ≠ []
  | [] => by simp [cutL]
  | b :: r => by
    unfold cutL
    split
    · simp
    · split <;> simp
theorem split_cut : ∀ s : List UInt8, Lib.splitK [46] 0 (Lib.count s [46]) s = cutL s
  | [] => by rw [Lib.count_miss (by simp [Lib.index])]; rfl
  | b :: r => by
    have ih := split_cut r
    by_cases hb : b = 46
    · subst hb
      have hix : Lib.index (46 :: r) [46] = ((0 : Nat) : Int) := by rw [Lib.index]; simp [List.isPrefixOf]
      rw [Lib.count_cons_eq, Nat.add_comm 1, Lib.splitK, if_neg (by rw [hix]; simp), hix]
      simp only [cutL, if_pos]
      rw [← ih]
      simp
    · have hp : ([46] : List UInt8).isPrefixOf (b :: r) = false := by simp [List.isPrefixOf, Ne.symm hb]
      have hix : Lib.index (b :: r) [46] = if Lib.index r [46] == -1 then -1 else Lib.index r [46] + 1 := by rw [Lib.index, hp]; simp
      rw [Lib.count_cons_ne b 46 r hb]
      unfold cutL
      rw [if_neg hb, ← ih]
      by_cases hm : Lib.index r [46] = -1
      · rw [Lib.count_miss hm]
        rfl
      · have hge := Lib.index_ge r [46]
        obtain ⟨j, hj⟩ : ∃ j : Nat, Lib.index r [46] = j := ⟨(Lib.index r [46]).toNat, by omega⟩
        have hix' : Lib.index (b :: r) [46] = ((j + 1 : Nat) : Int) := by rw [hix, if_neg (fun e => hm (beq_iff_eq.1 e)), hj]; omega
        rw [Lib.count_hit (by simp) hj, Nat.add_comm 1, Lib.splitK, Lib.splitK, if_neg (by rw [hix']; simp; omega), if_neg (by rw [hj]; simp), hix', hj]
        have e1 : (((j + 1 : Nat) : Int)).toNat = j + 1 := by omega
        have e2 : ((j : Nat) : Int).toNat = j := by omega
        simp only [e1, e2]
        simp [Nat.add_assoc]

theorem join_cut : ∀ s : List UInt8, Lib.join (cutL s) [46] = s
  | [] => by simp [cutL, Lib.join_one]
  | b :: r => by
    have ih := join_cut r
    unfold cutL
    split
    · rename_i h
      subst h
      rw [Lib.join_cons]
      cases hc : cutL r with
      | nil => exact absurd hc (cutL_ne r)
      | cons p ps =>
        rw [hc, Lib.join_cons] at ih
        conv => rhs; rw [← ih]
        simp [Lib.joinTail]
    · cases hc : cutL r with
      | nil => exact absurd hc (cutL_ne r)
      | cons p ps =>
        rw [hc, Lib.join_cons] at ih
        conv => rhs; rw [← ih]
        rw [Lib.join_cons]
        simp
theorem cut_part : ∀ (x r : List UInt8), (46 : UInt8) ∉ x → cutL (x ++ 46 :: r) = x :: cutL r
  | [], r, _ => by simp [cutL]
  | b :: x, r, h => by
    have ih := cut_part x r (fun h1 => h (List.mem_cons_of_mem _ h1))
    have hb : b ≠ 46 := fun e => h (by rw [e]; exact List.mem_cons_self)
    rw [List.cons_append, cutL, if_neg hb, ih]
theorem cut_one : ∀ (x : List UInt8), (46 : UInt8) ∉ x → cutL x = [x]
  | [], _ => by simp [cutL]
  | b :: x, h => by
    have ih := cut_one x (fun h1 => h (List.mem_cons_of_mem _ h1))
    have hb : b ≠ 46 := fun e => h (by rw [e]; exact List.mem_cons_self)
    rw [cutL, if_neg hb, ih]
theorem cut_join : ∀ (xs : List (List UInt8)), xs ≠ [] → (∀ x ∈ xs, (46 : UInt8) ∉ x) → cutL (Lib.join xs [46]) = xs
  | [], h, _ => absurd rfl h
  | [x], _, h => by rw [Lib.join_one]; exact cut_one x (h x List.mem_cons_self)
  | x :: y :: r, _, h => by
    have ih := cut_join (y :: r) (by simp) (fun z hz => h z (List.mem_cons_of_mem _ hz))
    have e : Lib.join (x :: y :: r) [46] = x ++ 46 :: Lib.join (y :: r) [46] := by
      rw [Lib.join_cons, Lib.join_cons]
      simp [Lib.joinTail]
    rw [e, cut_part x _ (h x List.mem_cons_self), ih]

theorem dec_mem : ∀ (n m : Nat), m ≤ n → ∀ c ∈ Lib.decDigits m, dig c = true
  | n, m, hm, c, hc => by
    rw [dec_step] at hc
    rcases List.mem_append.1 hc with h | h
    · split at h
      · simp at h
      · cases n with
        | zero => omega
        | succ n => exact dec_mem n (m / 10) (by omega) c h
    · rw [List.mem_singleton.1 h]
      exact (form_dig (by omega)).1
theorem itoa_dot (v : Int) : (46 : UInt8) ∉ Lib.itoa v := by
  unfold Lib.itoa
  split
  · intro h
    rcases List.mem_cons.1 h with h | h
    · exact absurd h (by decide)
    · exact absurd (dec_mem _ _ (Nat.le_refl _) _ h) (by decide)
  · intro h
    exact absurd (dec_mem _ _ (Nat.le_refl _) _ h) (by decide)
theorem dec_ne (m : Nat) : Lib.decDigits m ≠ [] := by rw [dec_step]; simp
theorem itoa_ne_dash (v : Int) : Lib.itoa v ≠ [45] := by
  unfold Lib.itoa
  split
  · intro h
    exact dec_ne _ (List.cons.inj h).2
  · intro h
    have : (45 : UInt8) ∈ Lib.decDigits v.toNat := by rw [h]; simp
    exact absurd (dec_mem _ _ (Nat.le_refl _) _ this) (by decide)
/-- a path's text -/
def textL (l : List Int) : List UInt8 := if l = [] then [45] else Lib.join (l.map Lib.itoa) [46]
theorem cut_text {l : List Int} (h : l ≠ []) : cutL (textL l) = l.map Lib.itoa := by
  unfold textL
  rw [if_neg h]
  refine cut_join _ (by simpa using h) ?_
  intro x hx
  obtain ⟨v, _, rfl⟩ := List.mem_map.1 hx
  exact itoa_dot v
theorem text_dash (l : List Int) : textL l = [45] ↔ l = [] := by
  constructor
  · intro h
    by_cases h0 : l = []
    · exact h0
    · exfalso
      have h1 := cut_text h0
      rw [h] at h1
      have h2 : cutL [45] = [[45]] := by decide
      rw [h2] at h1
      cases l with
      | nil => exact h0 rfl
      | cons v r =>
        rw [List.map_cons] at h1
        exact itoa_ne_dash v (List.cons.inj h1).1.symm
  · rintro rfl; rfl

def mapO {α β : Type} (f : α → Option β) : List α → Option (List β)
  | [] => some []
  | x :: r => match f x with
    | none => none
    | some v => (mapO f r).map (v :: ·)
/-- the program's parser -/
def parseS (s : List UInt8) : List Int × Int :=
  if s = [45] then ([], 0) else match mapO numL (cutL s) with
    | none => ([], 3)
    | some l => if 60 < l.length then ([], 2) else (l, 0)
/-- the reference's pass over the bytes -/
def refP : List UInt8 → Int → Nat → List Int → Option (List Int)
  | [], n, d, acc => if d = 0 then none else some (acc ++ [n])
  | c :: r, n, d, acc => if c = 46 then (if d = 0 then none else refP r 0 0 (acc ++ [n])) else if !(dig c) || decide (d = 3) then none else refP r (10 * n + c.toNat - 48) (d + 1) acc
def parseR (s : List UInt8) : List Int × Int :=
  if s = [45] then ([], 0) else match refP s 0 0 [] with
    | none => ([], 3)
    | some l => if textL l ≠ s then ([], 3) else if 60 < l.length then ([], 2) else (l, 0)

theorem grpD_nil0 (n : Int) : grpD [] n 0 = none := rfl
theorem grpD_nil {n : Int} {d : Nat} (h0 : d ≠ 0) (h : d ≤ 3) : grpD [] n d = some n := by
  unfold grpD
  have h1 : 0 < d := by omega
  rw [if_pos (by simp [h, h1])]
  rfl
theorem grpD_cons {c : UInt8} {p : List UInt8} {n : Int} {d : Nat} (hc : dig c = true) : grpD (c :: p) n d = grpD p (10 * n + c.toNat - 48) (d + 1) := by
  unfold grpD
  simp only [List.all_cons, hc, Bool.true_and, List.length_cons, valD, Int.add_sub_assoc, show d + 1 + p.length = d + (p.length + 1) by omega]
theorem grpD_bad {c : UInt8} {p : List UInt8} {n : Int} {d : Nat} (hc : dig c = false) : grpD (c :: p) n d = none := by
  unfold grpD
  rw [if_neg (by simp [hc])]
theorem grpD_full {c : UInt8} {p : List UInt8} {n : Int} : grpD (c :: p) n 3 = none := by
  unfold grpD
  rw [if_neg (by simp)]
theorem refP_cut : ∀ (s : List UInt8) (n : Int) (d : Nat) (acc : List Int), d ≤ 3 → refP s n d acc = match cutL s with
    | [] => none
    | p :: ps => match grpD p n d with
      | none => none
      | some v => (mapO grpL ps).map fun vs => acc ++ v :: vs
  | [], n, d, acc, h => by
    rw [cutL, refP]
    simp only [mapO]
    by_cases h0 : d = 0
    · subst h0; rw [grpD_nil0]; rfl
    · rw [if_neg h0, grpD_nil h0 h]; rfl
  | c :: r, n, d, acc, h => by
    rw [refP, cutL]
    by_cases hc : c = 46
    · rw [if_pos hc, if_pos hc]
      simp only
      by_cases h0 : d = 0
      · subst h0; rw [grpD_nil0]; rfl
      · rw [if_neg h0, grpD_nil h0 h]
        have ih := refP_cut r 0 0 (acc ++ [n]) (by omega)
        rw [ih]
        cases hr : cutL r with
        | nil => exact absurd hr (cutL_ne r)
        | cons p ps =>
          simp only [mapO]
          cases hg : grpD p 0 0 with
          | none =>
            have hg' : grpL p = none := hg
            rw [hg']; rfl
          | some v =>
            have hg' : grpL p = some v := hg
            rw [hg']
            simp only
            cases mapO grpL ps <;> simp
    · rw [if_neg hc, if_neg hc]
      cases hr : cutL r with
      | nil => exact absurd hr (cutL_ne r)
      | cons p ps =>
        simp only
        by_cases hd : dig c = true
        · by_cases h3 : d = 3
          · subst h3
            rw [grpD_full, if_pos (by simp)]
          · have ih := refP_cut r (10 * n + c.toNat - 48) (d + 1) acc (by omega)
            rw [if_neg (by simp [hd, h3]), ih, hr, grpD_cons hd]
        · have hd' : dig c = false := by simpa using hd
          rw [if_pos (by simp [hd']), grpD_bad hd']

theorem ref_groups (s : List UInt8) : refP s 0 0 [] = mapO grpL (cutL s) := by
  rw [refP_cut s 0 0 [] (by omega)]
  cases hr : cutL s with
  | nil => exact absurd hr (cutL_ne s)
  | cons p ps =>
    simp only [mapO, grpL]
    cases grpD p 0 0 <;> simp

theorem mapO_num : ∀ (ps : List (List UInt8)) (l : List Int), mapO numL ps = some l ↔ mapO grpL ps = some l ∧ l.map Lib.itoa = ps
  | [], l => by simp only [mapO, Option.some.injEq, List.map_eq_nil_iff]; exact ⟨fun h => ⟨h, h.symm⟩, fun h => h.1⟩
  | p :: ps, l => by
    simp only [mapO]
    constructor
    · intro h
      cases hn : numL p with
      | none => rw [hn] at h; cases h
      | some v =>
        rw [hn] at h
        simp only at h
        cases hm : mapO numL ps with
        | none => rw [hm] at h; cases h
        | some l' =>
          rw [hm] at h
          cases h
          obtain ⟨h1, h2⟩ := (mapO_num ps l').1 hm
          obtain ⟨h3, h4⟩ := (num_iff p v).1 hn
          rw [h3]
          simp only [h1, List.map_cons, h4, h2]
          exact ⟨rfl, trivial⟩
    · rintro ⟨h, he⟩
      cases hn : grpL p with
      | none => rw [hn] at h; cases h
      | some v =>
        rw [hn] at h
        simp only at h
        cases hm : mapO grpL ps with
        | none => rw [hm] at h; cases h
        | some l' =>
          rw [hm] at h
          cases h
          rw [List.map_cons] at he
          obtain ⟨e1, e2⟩ := List.cons.inj he
          rw [(num_iff p v).2 ⟨hn, e1⟩]
          simp only [(mapO_num ps l').2 ⟨hm, e2⟩]
          rfl
theorem mapO_length {α β : Type} (f : α → Option β) : ∀ (ps : List α) (l : List β), mapO f ps = some l → l.length = ps.length
  | [], l, h => by cases h; rfl
  | p :: ps, l, h => by
    simp only [mapO] at h
    cases hn : f p with
    | none => rw [hn] at h; cases h
    | some v =>
      rw [hn] at h
      simp only at h
      cases hm : mapO f ps with
      | none => rw [hm] at h; cases h
      | some l' =>
        rw [hm] at h
        cases h
        simp [mapO_length f ps l' hm]

theorem parse_same (s : List UInt8) : parseS s = parseR s := by
  unfold parseS parseR
  split
  · rfl
  · rename_i hs
    rw [ref_groups]
    cases hg : mapO grpL (cutL s) with
    | none =>
      have : mapO numL (cutL s) = none := by
        cases hn : mapO numL (cutL s) with
        | none => rfl
        | some l => rw [((mapO_num _ l).1 hn).1] at hg; cases hg
      rw [this]
    | some l =>
      have hl : l ≠ [] := by
        rintro rfl
        have := mapO_length _ _ _ hg
        exact cutL_ne s (List.length_eq_zero_iff.1 this.symm)
      simp only
      by_cases ht : textL l = s
      · have : mapO numL (cutL s) = some l := (mapO_num _ l).2 ⟨hg, by rw [← cut_text hl, ht]⟩
        rw [this]
        simp [ht]
      · have : mapO numL (cutL s) = none := by
          cases hn : mapO numL (cutL s) with
          | none => rfl
          | some l' =>
            obtain ⟨h1, h2⟩ := (mapO_num _ l').1 hn
            rw [hg] at h1
            cases h1
            exfalso
            apply ht
            unfold textL
            rw [if_neg hl, h2, join_cut]
        rw [this]
        simp [ht]

theorem valD_snoc : ∀ (p : List UInt8) (c : UInt8) (n : Int), valD (p ++ [c]) n = 10 * valD p n + (c.toNat - 48)
  | [], c, n => rfl
  | b :: p, c, n => valD_snoc p c _
theorem valD_dec : ∀ (n m : Nat), m ≤ n → valD (Lib.decDigits m) 0 = m
  | n, m, hm => by
    rw [dec_step]
    have e := (form_dig (x := m % 10) (by omega)).2
    rw [valD_snoc, e]
    split
    · simp only [valD]; omega
    · cases n with
      | zero => omega
      | succ n =>
        rw [valD_dec n (m / 10) (by omega)]
        omega
theorem itoa_inj (u v : Int) (h0 : 0 ≤ u) (h1 : 0 ≤ v) (h : Lib.itoa u = Lib.itoa v) : u = v := by
  obtain ⟨n, rfl⟩ : ∃ n : Nat, u = n := ⟨u.toNat, by omega⟩
  obtain ⟨m, rfl⟩ : ∃ m : Nat, v = m := ⟨v.toNat, by omega⟩
  rw [Lib.itoa_nonneg, Lib.itoa_nonneg] at h
  rw [← valD_dec n n (Nat.le_refl _), h, valD_dec m m (Nat.le_refl _)]
theorem mapO_itoa (l : List Int) : mapO numL (l.map Lib.itoa) = if (∀ v ∈ l, 0 ≤ v ∧ v ≤ 999) then some l else none := by
  induction l with
  | nil => simp [mapO]
  | cons v r ih =>
    simp only [List.map_cons, mapO]
    by_cases hv : 0 ≤ v ∧ v ≤ 999
    · rw [num_itoa v hv.1 hv.2]
      simp only [ih]
      by_cases hr : ∀ v ∈ r, 0 ≤ v ∧ v ≤ 999
      · rw [if_pos hr, if_pos (fun x hx => (List.mem_cons.1 hx).elim (fun e => e ▸ hv) (hr x))]
        rfl
      · rw [if_neg hr, if_neg (fun h => hr fun x hx => h x (List.mem_cons_of_mem _ hx))]
        rfl
    · have : numL (Lib.itoa v) = none := by
        cases hn : numL (Lib.itoa v) with
        | none => rfl
        | some u =>
          obtain ⟨h0, h1, h2⟩ := num_some hn
          exfalso
          apply hv
          have : u = v := by
            have h3 : numL (Lib.itoa v) = numL (Lib.itoa u) := by rw [h2]
            by_cases hneg : v < 0
            · have : Lib.itoa v = 45 :: Lib.decDigits v.natAbs := by unfold Lib.itoa; rw [if_pos hneg]
              rw [this] at h2
              have h4 : (45 : UInt8) ∈ Lib.itoa u := by rw [h2]; simp
              obtain ⟨m, rfl⟩ : ∃ m : Nat, u = m := ⟨u.toNat, by omega⟩
              rw [Lib.itoa_nonneg] at h4
              exact absurd (dec_mem _ _ (Nat.le_refl _) _ h4) (by decide)
            · exact itoa_inj u v h0 (by omega) h2
          rw [← this]
          exact ⟨h0, h1⟩
      rw [this]
      simp only
      rw [if_neg (fun h => hv (h v List.mem_cons_self))]
theorem parse_text (l : List Int) : parseS (textL l) = if (∀ v ∈ l, 0 ≤ v ∧ v ≤ 999) then (if 60 < l.length then ([], 2) else (l, 0)) else ([], 3) := by
  unfold parseS
  by_cases h0 : l = []
  · subst h0; simp [textL]
  · rw [if_neg (fun h => h0 ((text_dash l).1 h)), cut_text h0, mapO_itoa]
    by_cases ha : ∀ v ∈ l, 0 ≤ v ∧ v ≤ 999
    · rw [if_pos ha, if_pos ha]
    · rw [if_neg ha, if_neg ha]
end Go.Proofs.YtnpcapdlgcaniaaDoor
