/- Numbers of chapter 7: what a form is, what a magnitude and a pattern mean, in plain Lean. No condition. -/
import Derived.Lib.TrailingZeros
import Derived.Lib.BitFns
namespace Go.Proofs.YtogdiobbjlpmoaaDoor.Cal
open Go

/-- A form. -/
structure Frm where
  kind : Nat
  width : Nat
  man : Nat
  bias : Nat
  top : Nat
  inf : Nat
  nan : Nat

def frm : Nat → Frm
  | 1 => ⟨1, 8, 0, 0, 127, 0, 128⟩
  | 2 => ⟨1, 16, 0, 0, 32767, 0, 32768⟩
  | 3 => ⟨1, 32, 0, 0, 2147483647, 0, 2147483648⟩
  | 4 => ⟨1, 64, 0, 0, 9223372036854775807, 0, 9223372036854775808⟩
  | 5 => ⟨2, 8, 3, 7, 126, 0, 127⟩
  | 6 => ⟨2, 8, 2, 15, 123, 124, 126⟩
  | 7 => ⟨2, 6, 2, 3, 31, 0, 0⟩
  | 8 => ⟨2, 6, 3, 1, 31, 0, 0⟩
  | 9 => ⟨2, 4, 1, 1, 7, 0, 0⟩
  | 10 => ⟨3, 8, 6, 0, 127, 0, 0⟩
  | 11 => ⟨4, 8, 0, 127, 254, 0, 255⟩
  | 12 => ⟨2, 16, 10, 15, 31743, 31744, 32256⟩
  | 13 => ⟨2, 32, 23, 127, 2139095039, 2139095040, 2143289344⟩
  | 14 => ⟨2, 64, 52, 1023, 9218868437227405311, 9218868437227405312, 9221120237041090560⟩
  | _ => ⟨0, 0, 0, 0, 0, 0, 0⟩

/-- A number as an odd one, and a power of two. -/
def odd (m : Nat) (e : Int) : Nat × Int := if m = 0 then (0, 0) else (m / 2 ^ Lib.ctz 64 m, e + Lib.ctz 64 m)

/-- How long the run of equal bits is, of a key of n bits. -/
def prun (n key : Nat) : Nat := if 2 ^ (n - 1) ≤ key then n - Lib.bitLen (2 ^ n - 1 - key) else n - Lib.bitLen key
def preg (n key : Nat) : Int := if 2 ^ (n - 1) ≤ key then (prun n key : Int) - 1 else -(prun n key : Int)
def pleft (n key : Nat) : Nat := n - prun n key - 1
def prest (n key : Nat) : Nat := key % 2 ^ pleft n key
def pbits (n key : Nat) : Nat := pleft n key - 2
def pexp (n key : Nat) : Nat := prest n key / 2 ^ pbits n key * 2 ^ (2 - pleft n key)
def pfrac (n key : Nat) : Nat := prest n key % 2 ^ pbits n key

/-- A posit's magnitude, of n bits. -/
def pval (n key : Nat) : Nat × Int := odd (2 ^ pbits n key + pfrac n key) (4 * preg n key + pexp n key - pbits n key)

/-- A magnitude of an exponent and a mantissa. -/
def mval (man bias key : Nat) : Nat × Int :=
  if key = 0 then (0, 0) else odd (key % 2 ^ man + (if key / 2 ^ man = 0 then 0 else 2 ^ man)) ((max (key / 2 ^ man) 1 : Nat) - (bias : Int) - man)

/-- A magnitude of a form, with so many bits more. -/
def number (f : Frm) (more key : Nat) : Nat × Int :=
  if f.kind = 1 then pval (f.width + more - 1) key
  else if f.kind = 2 then mval (f.man + more) f.bias key
  else if f.kind = 3 then odd key (-(f.man : Int) - more)
  else (1 + 2 * more, ((key / 2 ^ more : Nat) : Int) - f.bias - more)

def signB (f : Frm) : Nat := if f.kind = 4 then 0 else 2 ^ (f.width - 1)

/-- Is there such a form? -/
def isForm (i : Int) : Prop := 1 ≤ i ∧ i ≤ 14
instance (i : Int) : Decidable (isForm i) := by unfold isForm; exact inferInstance

def fitsE (i : Int) (p : Nat) : Int := if isForm i then (if p < 2 ^ (frm i.toNat).width then 0 else 1) else 3

/-- The sign and the magnitude of a pattern that fits. -/
def negP (f : Frm) (p : Nat) : Bool := decide (f.kind ≠ 4 ∧ 2 ^ (f.width - 1) ≤ p)
def keyP (f : Frm) (p : Nat) : Nat := if negP f p = true then (if f.kind = 2 then p - 2 ^ (f.width - 1) else 2 ^ f.width - p) else p

def cls (f : Frm) (p : Nat) : Nat :=
  if f.kind = 2 ∧ keyP f p = f.inf ∧ f.inf ≠ 0 then 3
  else if (f.kind = 2 ∧ f.top < keyP f p) ∨ (f.kind ≠ 2 ∧ f.nan ≠ 0 ∧ p = f.nan) then 4
  else if keyP f p = 0 ∧ f.kind ≠ 4 then 1 else 2

/-- What a pattern means: its class, its sign, M and E, and the error. -/
structure Val where
  cls : Nat
  neg : Bool
  m : Nat
  e : Int
  deriving DecidableEq

def decodeF (f : Frm) (p : Nat) : Val :=
  if cls f p = 2 then ⟨2, negP f p, (number f 0 (keyP f p)).1, (number f 0 (keyP f p)).2⟩
  else if cls f p = 4 then ⟨4, false, 0, 0⟩ else ⟨cls f p, negP f p, 0, 0⟩

def means (i : Int) (p : Nat) : Val := if fitsE i p = 0 then decodeF (frm i.toNat) p else ⟨0, false, 0, 0⟩

/-- The greatest magnitude that At and Between take. -/
def lastKey (f : Frm) : Nat := if f.kind = 3 then f.top + 1 else f.top

/-- Key: the sign, the magnitude, the error. -/
def keyV (i : Int) (p : Nat) : Bool × Nat × Int :=
  if fitsE i p ≠ 0 then (false, 0, fitsE i p)
  else if cls (frm i.toNat) p = 3 ∨ cls (frm i.toNat) p = 4 then (false, 0, 5) else (negP (frm i.toNat) p, keyP (frm i.toNat) p, 0)

/-- Most: the greatest magnitude of a sign, and the error. -/
def mostV (i : Int) (neg : Bool) : Nat × Int :=
  if ¬ isForm i then (0, 3) else if neg = true ∧ (frm i.toNat).kind = 4 then (0, 5)
  else if neg = true ∧ (frm i.toNat).kind = 3 then ((frm i.toNat).top + 1, 0) else ((frm i.toNat).top, 0)

/-- The pattern of a sign and a magnitude of a form. -/
def patF (f : Frm) (neg : Bool) (key : Nat) : Nat :=
  if neg = false then key else if f.kind = 2 then key + 2 ^ (f.width - 1) else if key = 0 then 0 else 2 ^ f.width - key

/-- Pattern: the pattern, and the error. -/
def patV (i : Int) (neg : Bool) (key : Nat) : Nat × Int :=
  if (mostV i neg).2 ≠ 0 then (0, (mostV i neg).2) else if (mostV i neg).1 < key then (0, 4) else (patF (frm i.toNat) neg key, 0)

/-- May a magnitude be? -/
def keyE (i : Int) (key : Nat) : Int := if ¬ isForm i then 3 else if lastKey (frm i.toNat) < key then 4 else 0

/-- At: M, E and the error. -/
def atV (i : Int) (key : Nat) : Nat × Int × Int :=
  if keyE i key ≠ 0 ∨ (key = 0 ∧ (frm i.toNat).kind ≠ 4) then (0, 0, keyE i key) else ((number (frm i.toNat) 0 key).1, (number (frm i.toNat) 0 key).2, 0)

/-- Between: M, E and the error. -/
def betV (i : Int) (key : Nat) : Nat × Int × Int :=
  if keyE i key ≠ 0 then (0, 0, keyE i key) else ((number (frm i.toNat) 1 (2 * key + 1)).1, (number (frm i.toNat) 1 (2 * key + 1)).2, 0)

end Go.Proofs.YtogdiobbjlpmoaaDoor.Cal
