/- The reference of layer 20: what Read answers. -/
import Derived.Test.YtlhcjnjajkfahaaK23
namespace Go.Proofs.Ytlhcjnjajkfahaa
open Go.RowKit
def rRead20 (s : ByteArray) (p : Nat) : List Value :=
  if s.size < p + 4 then rBad20 1 s.size else
  if (lowK s p 4 == 16 || lowK s p 4 == 64) = true then rBad20 3 p else
  if headsB (lowK s p 4) = false then rBad20 2 p else
  if (s.size : Int) < p + lowK s p 4 then rBad20 1 s.size else
  if (lowK s p 4 == 12) = true then rShort (s.extract p (p + (lowK s p 4).toNat)) p else
  if (firstW (greatF (s.extract p (p + (lowK s p 4).toNat)))).2 = true then rBad20 (firstW (greatF (s.extract p (p + (lowK s p 4).toNat)))).1.2.1 ((p : Int) + (firstW (greatF (s.extract p (p + (lowK s p 4).toNat)))).1.2.2)
  else rMk s p (greatH (s.extract p (p + (lowK s p 4).toNat))) ((p : Int) + lowK s p 4)
end Go.Proofs.Ytlhcjnjajkfahaa
