/- Writing: that the digits of internal/strconv.shortFloat lie just where they are read back as the same number (no program in sight). -/
import Derived.Test.YteoalcmhdoopnaaGreatDoorParN
namespace Go.Proofs.YteoalcmhdoopnaaGreatDoor
def l10p2 (x:Int):Int:=x * 78913 / 262144
def skewF (e:Int):Int:=(e * 631305 - 261663) / 2097152
def rM (r:Nat):Nat:=if r<4503599627370496 then r else 4503599627370496+r % 4503599627370496
def rK (r:Nat):Nat:=r / 4503599627370496 - 1
def skewB (r:Nat):Bool:=decide (rM r=4503599627370496) && decide (1<=rK r)
def fS (r:Nat):Nat:=64 - len64 (rM r)
def fP (r:Nat):Int:=if skewB r then -skewF (rK r - 1074) else -l10p2 (rK r - 1074)
def fSc (r:Nat):Int:=fS r+1071 - lp10 (fP r) - rK r
end Go.Proofs.YteoalcmhdoopnaaGreatDoor
