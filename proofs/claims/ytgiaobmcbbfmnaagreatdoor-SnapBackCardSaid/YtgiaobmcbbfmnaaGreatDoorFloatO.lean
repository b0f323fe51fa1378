/- The plain law of the order of floats: by their words. No program in sight. -/
import Derived.Test.YtgiaobmcbbfmnaaGreatDoorFloatP
namespace Go.Proofs.YtgiaobmcbbfmnaaGreatDoor.pz
open Ieee
def value (r:Nat):Nat:=if r<4503599627370496 then r else(4503599627370496+r % 4503599627370496)*2^(r/4503599627370496-1)
def XG (w:Nat):Bool:=w/9223372036854775808 % 2==1
def rung (w:Nat):Nat:=w % 9223372036854775808
def aeJ (w:Nat):Bool:=decide (9218868437227405312<rung w)
def key (w:Nat):Int:=if XG w then-(rung w:Int)else(rung w:Int)
end Go.Proofs.YtgiaobmcbbfmnaaGreatDoor.pz
