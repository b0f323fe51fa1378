/- The plain law of numbers: which texts are which numbers, of base 10 and of base 16. No program in sight. -/
import Derived.Lib.ParseIntB
import Derived.Lib.Strings
import Derived.Lib.ParseIntBCases
import Derived.Laws.Closers25b
namespace Go.Proofs.YthfgacnlojmmfaaGreatDoor.AmD
open Go
variable {n : Nat} {c : UInt8}
abbrev Bytes:=List UInt8
def isDig (c:UInt8):Bool:=48≤c.toNat && c.toNat≤57
def isHex (c:UInt8):Bool:=isDig c||(97≤c.toNat && c.toNat≤102)
def next10 (acc:Nat)(c:UInt8):Nat:=acc*10+(c.toNat-48)
def val10 (acc:Nat)(l:Bytes):Nat:=l.foldl next10 acc
def dg (d:Nat):UInt8:=UInt8.ofNat (48+d)
def digits (n:Nat):Bytes:=if n<10 then [dg n]else digits (n/10)++[dg (n % 10)]
decreasing_by omega
def noZero:Bytes→Bool
 |c::_::_=>c !=48
 |_=>true
def dec (l:Bytes):Option Nat:=if l≠[]∧(∀b∈l,isDig b=true)∧noZero l=true∧val10 0 l<18446744073709551616 then some (val10 0 l)else none
def hexV (c:UInt8):Nat:=if c.toNat≤57 then c.toNat-48 else c.toNat-87
def next16 (acc:Nat)(c:UInt8):Nat:=acc*16+hexV c
def val16 (acc:Nat)(l:Bytes):Nat:=l.foldl next16 acc
def hex (l:Bytes):Option Nat:=if l≠[]∧(∀b∈l,isHex b=true)∧l.length≤16 then some (val16 0 l)else none
def d16 (c:UInt8):Option Nat:=
 if isDig c then some (c.toNat-48)else
  if 97≤bits .or .u8 (c.toNat:Int) 32∧bits .or .u8 (c.toNat:Int) 32≤102 then some ((bits .or .u8 (c.toNat:Int) 32).toNat-87)else none
def parse16 (acc:Nat):Bytes→Lib.NumEnd Nat
 | []=> .ok acc
 |c::r=>match d16 c with
  |none=>Lib.NumEnd.syntax
  |some d=>if 1152921504606846976≤acc then .range else parse16 (acc*16+d) r
def numOf (l:Bytes):Option Nat:=if Lib.hasPrefix l [48,120]=true then hex (Lib.trimPrefix l [48,120])else dec l
end Go.Proofs.YthfgacnlojmmfaaGreatDoor.AmD
