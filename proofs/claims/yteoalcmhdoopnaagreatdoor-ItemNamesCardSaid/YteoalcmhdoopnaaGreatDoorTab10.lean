/- The table of powers of ten, as what it is: rounded up to 128 bits; that no number of 64 bits (of 55 bits) comes too near (no program in sight). -/
namespace Go.Proofs.YteoalcmhdoopnaaGreatDoor
def lp10 (p:Int):Int:=p * 108853 / 32768
def tN (p:Int):Nat:=10 ^ p.toNat * 2 ^ (127 - lp10 p).toNat
def tD (p:Int):Nat:=10 ^ (-p).toNat * 2 ^ (lp10 p - 127).toNat
def pmT (p:Int):Nat:=(tN p+tD p - 1) / tD p
def hiT (p:Int):Nat:=(pmT p+18446744073709551615) / 18446744073709551616
def loT (p:Int):Nat:=hiT p * 18446744073709551616 - pmT p
end Go.Proofs.YteoalcmhdoopnaaGreatDoor
