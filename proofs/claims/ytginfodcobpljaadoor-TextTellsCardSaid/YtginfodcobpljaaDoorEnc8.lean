/- The bytes of a rune, in plain Lean. No program. -/
import Derived.Lib.DecodeN
namespace Go.Proofs.YtginfodcobpljaaDoor
/-- the bytes of a rune -/
def enc8 (r : Nat) : List UInt8 :=
  if r < 128 then [UInt8.ofNat r]
  else if r < 2048 then [UInt8.ofNat (192 + r / 64), UInt8.ofNat (128 + r % 64)]
  else if r < 65536 then [UInt8.ofNat (224 + r / 4096), UInt8.ofNat (128 + r / 64 % 64), UInt8.ofNat (128 + r % 64)]
  else [UInt8.ofNat (240 + r / 262144), UInt8.ofNat (128 + r / 4096 % 64), UInt8.ofNat (128 + r / 64 % 64), UInt8.ofNat (128 + r % 64)]
end Go.Proofs.YtginfodcobpljaaDoor
