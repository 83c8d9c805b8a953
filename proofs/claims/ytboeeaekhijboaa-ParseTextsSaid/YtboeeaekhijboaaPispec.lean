/- Layer 14 in plain words: items. No program in sight. -/
import Derived.Test.YtboeeaekhijboaaPterm
import Derived.Test.YtboeeaekhijboaaWords
namespace Go.Proofs.Ytboeeaekhijboaa
open Go.RowKit
set_option linter.unusedVariables false
set_option linter.unusedSimpArgs false

/-- an item: its kind, its words, its trees, its number, its place -/
abbrev It := Int × List ByteArray × Ns × Int × Int
def numV (t : Tok) : Int := if t.1 = 2 ∧ numB t.2.1 = true then (valL t.2.1.data.toList 0 : Int) else 0
def oneN (a : Nd) : Ns := .cons a.kind a.word a.at a.kids .nil
def kinds : List ByteArray := [⟨#[115, 111, 114, 116]⟩, ⟨#[99, 111, 110, 115, 116]⟩, ⟨#[118, 97, 114]⟩, ⟨#[101, 113]⟩, ⟨#[114, 117, 108, 101]⟩, ⟨#[112, 114, 101, 99]⟩, ⟨#[115, 116, 97, 116, 117, 115]⟩, ⟨#[99, 111, 109, 112, 108, 101, 116, 101]⟩, ⟨#[110, 111, 114, 109, 97, 108]⟩, ⟨#[100, 101, 99, 105, 100, 101]⟩, ⟨#[99, 111, 110, 102, 108, 117, 101, 110, 116]⟩, ⟨#[99, 101, 114, 116, 105, 102, 121]⟩]
def kindOf (x : ByteArray) : Int := Lib.idxOfS kinds x + 1

section
variable (ts : List Tok) (s : ByteArray)
def moreW : Nat → List ByteArray → Nat → Rz (List ByteArray)
 | 0, l, k => .ok (l, k)
 | f + 1, l, k => if (tokAt ts s k 0).1 = 1 then moreW f (l ++ [(tokAt ts s k 0).2.1]) (k + 1) else .ok (l, k)
def wordsS (k : Nat) : Rz (List ByteArray) := (tokS ts s 1 k).bind fun t k1 => moreW ts s (ts.length + 1 - k1) [t.2.1] k1
def namedS (k : Nat) : Rz (List ByteArray) := (tokS ts s 1 k).bind fun t k1 => (mustS ts s bColon k1).bind fun k2 => .ok ([t.2.1], k2)
def countedS (k : Nat) : Rz Int := (tokS ts s 2 k).bind fun t k1 => (mustS ts s bColon k1).bind fun k2 => .ok (numV t, k2)
def termsS (sg : ByteArray) (k : Nat) : Rz Ns := (termS ts s 60 k).bind fun a k1 => (mustS ts s sg k1).bind fun k2 => (termS ts s 60 k2).bind fun b k3 => .ok (twoN a b, k3)
def moreC : Nat → List ByteArray → Nat → Rz (List ByteArray)
 | 0, l, k => .ok (l, k)
 | f + 1, l, k => if eatB ts s bGt k = true then (tokS ts s 1 (k + 1)).bind fun t k1 => moreC f (l ++ [t.2.1]) k1 else .ok (l, k)
def chainS (k : Nat) : Rz (List ByteArray) := (tokS ts s 1 k).bind fun t k1 => (mustS ts s bGt k1).bind fun k2 => (tokS ts s 1 k2).bind fun u k3 => moreC ts s (ts.length + 1 - k3) [t.2.1, u.2.1] k3
/-- what stands behind the word that begins an item -/
def bodyS (kd : Int) (k : Nat) : Rz (List ByteArray × Ns × Int) :=
 if kd = 1 then (wordsS ts s k).bind fun l k1 => .ok ((l, .nil, 0), k1)
 else if kd = 2 ∨ kd = 3 then (namedS ts s k).bind fun l k1 => (typS ts s 60 k1).bind fun a k2 => .ok ((l, oneN a, 0), k2)
 else if kd = 4 then (namedS ts s k).bind fun l k1 => (termsS ts s bEq k1).bind fun a k2 => .ok ((l, a, 0), k2)
 else if kd = 5 then (namedS ts s k).bind fun l k1 => (termsS ts s bGt k1).bind fun a k2 => .ok ((l, a, 0), k2)
 else if kd = 6 then (chainS ts s k).bind fun l k1 => .ok ((l, .nil, 0), k1)
 else if kd = 7 then (tokS ts s 1 k).bind fun t k1 => (tokS ts s 1 k1).bind fun u k2 => .ok (([t.2.1, u.2.1], .nil, 0), k2)
 else if kd = 9 then (countedS ts s k).bind fun n k1 => (termS ts s 60 k1).bind fun a k2 => .ok (([], oneN a, n), k2)
 else if kd = 10 then (countedS ts s k).bind fun n k1 => (termsS ts s bEq k1).bind fun a k2 => .ok (([], a, n), k2)
 else if kd = 12 then (tokS ts s 1 k).bind fun t k1 => .ok (([t.2.1], .nil, 0), k1)
 else (tokS ts s 2 k).bind fun t k1 => .ok (([], .nil, numV t), k1)
def itemS (k : Nat) : Rz It :=
 if (tokAt ts s k 0).1 ≠ 1 ∨ kindOf (tokAt ts s k 0).2.1 = 0 then .error (3, k)
 else (bodyS ts s (kindOf (tokAt ts s k 0).2.1) (k + 1)).bind fun x k1 => (mustS ts s bSemi k1).bind fun k2 => .ok ((kindOf (tokAt ts s k 0).2.1, x.1, x.2.1, x.2.2, ((tokAt ts s k 0).2.2 : Int)), k2)
/-- all items; so many more at most -/
def itemsS : Nat → List It → Nat → Rz (List It)
 | 0, l, k => if k < ts.length then .error (2, k) else .ok (l, k)
 | n + 1, l, k => if k < ts.length then (itemS ts s k).bind fun x k1 => itemsS n (l ++ [x]) k1 else .ok (l, k)
end
end Go.Proofs.Ytboeeaekhijboaa
