/- Chapter 11: which zones are valid, as plain functions; no program in sight. -/
import Derived.Test.YtafbhadfeemppaaGreatDoorOptNames
import Derived.Test.YtafbhadfeemppaaGreatDoorDatParse
namespace Go.Proofs.YtafbhadfeemppaaGreatDoor
namespace Zn

/-- A zone. -/
structure Z where
  fmt : Int
  kind : ByteArray
  state : ByteArray
  sur : ByteArray
  giv : ByteArray
  num : ByteArray
  nat : ByteArray
  birth : ByteArray
  sex : ByteArray
  exp : ByteArray
  opt : ByteArray
  sec : ByteArray
def Z.val (z : Z) : Value := .agg #[.int .i64 z.fmt, .string z.kind, .string z.state, .string z.sur, .string z.giv, .string z.num, .string z.nat, .string z.birth, .string z.sex, .string z.exp, .string z.opt, .string z.sec]
def Z.cells (z : Z) : Array Value := #[.int .i64 z.fmt, .string z.kind, .string z.state, .string z.sur, .string z.giv, .string z.num, .string z.nat, .string z.birth, .string z.sex, .string z.exp, .string z.opt, .string z.sec]
def Z.zero : Z := ⟨0, ⟨#[]⟩, ⟨#[]⟩, ⟨#[]⟩, ⟨#[]⟩, ⟨#[]⟩, ⟨#[]⟩, ⟨#[]⟩, ⟨#[]⟩, ⟨#[]⟩, ⟨#[]⟩, ⟨#[]⟩⟩
/-- Each text can be read. -/
def Z.fits (z : Z) (n : Nat) : Prop := z.kind.size ≤ n ∧ z.state.size ≤ n ∧ z.sur.size ≤ n ∧ z.giv.size ≤ n ∧ z.num.size ≤ n ∧ z.nat.size ≤ n ∧ z.birth.size ≤ n ∧ z.sex.size ≤ n ∧ z.exp.size ≤ n ∧ z.opt.size ≤ n ∧ z.sec.size ≤ n

/-- One to some capital letters. -/
def letters (s : ByteArray) (most : Int) : Bool := decide ((1 : Int) ≤ s.size) && (decide ((s.size : Int) ≤ most) && s.data.toList.all Opt.isL)
/-- Letters and digits. -/
def plain (s : ByteArray) : Bool := s.data.toList.all fun c => Opt.ok c && c != 60
def isDig (c : UInt8) : Bool := decide (48 ≤ (c.toNat : Int)) && decide ((c.toNat : Int) ≤ 57)
/-- A pair of digits; -1 for two fillers, -2 for others. -/
def pair (a b : UInt8) : Int := if a = 60 ∧ b = 60 then -1 else if isDig a && isDig b then 10 * ((a.toNat : Int) - 48) + ((b.toNat : Int) - 48) else -2
def pairOk (i : Nat) (p : Int) : Bool := if i = 0 then decide (-2 < p) else if i = 1 then p == -1 || decide (1 ≤ p ∧ p ≤ 12) else p == -1 || decide (1 ≤ p ∧ p ≤ 31)
/-- A date of birth. -/
def birthB (s : ByteArray) : Bool := if h : s.size = 6 then pairOk 0 (pair (s[0]'(by omega)) (s[1]'(by omega))) && (pairOk 1 (pair (s[2]'(by omega)) (s[3]'(by omega))) && pairOk 2 (pair (s[4]'(by omega)) (s[5]'(by omega)))) else false
/-- What can stand in a field of additions. -/
def extra (s : ByteArray) : Bool := Opt.valid s.data.toList && ((s.data.toList).head? != some 60 && (s.data.toList).getLast? != some 60)
def longest (f : Int) : Int := if f = 1 then 20 else if f = 2 then 14 else 9
def wide (f : Int) : Int := if f = 1 then 15 else if f = 2 then 7 else 14
/-- How many characters of the optional field are wanted. -/
def need (z : Z) : Int := z.opt.size + if (9 : Int) < z.num.size then (z.num.size : Int) - 7 else 0
def sexB (s : ByteArray) : Bool := decide (s = ⟨#[77]⟩) || (decide (s = ⟨#[70]⟩) || decide (s = ⟨#[60]⟩))
/-- The first error of a zone. -/
noncomputable def vldE (z : Z) : Int :=
  if ¬ (1 ≤ z.fmt ∧ z.fmt ≤ 3) then 14 else if letters z.kind 2 = false then 14 else if letters z.state 3 = false then 14 else if Opt.words 32 z.sur.data.toList = false then 14 else if z.sur.size = 0 then 14 else
  if Opt.words 32 z.giv.data.toList = false then 14 else if z.num.size = 0 then 14 else if plain z.num = false then 14 else if longest z.fmt < z.num.size then 2 else if letters z.nat 3 = false then 14 else
  if birthB z.birth = false then 8 else if sexB z.sex = false then 14 else if Dat.prE z.exp 2000 ≠ 0 then 8 else if extra z.opt = false then 14 else if extra z.sec = false then 14 else
  if z.fmt ≠ 1 ∧ z.sec.size ≠ 0 then 14 else if wide z.fmt < need z then 2 else if (11 : Int) < z.sec.size then 2 else 0
end Zn
end Go.Proofs.YtafbhadfeemppaaGreatDoor
