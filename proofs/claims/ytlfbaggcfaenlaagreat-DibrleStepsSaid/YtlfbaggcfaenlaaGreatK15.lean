/- A raster's Image; walked. -/
import Derived.Test.YtlfbaggcfaenlaaGreatK14
import Derived.Test.YtlfbaggcfaenlaaGreatK3
import Derived.Test.YtlfbaggcfaenlaaGreatK11
import Derived.Test.YtlfbaggcfaenlaaGreatK1
namespace Go.Proofs.YtlfbaggcfaenlaaGreat
open Go.RowKit
set_option linter.unusedVariables false
set_option linter.unusedSimpArgs false
def Ras.shut (r : Ras) : Ras := { r with op := false, b := r.b.shut }
end Go.Proofs.YtlfbaggcfaenlaaGreat

namespace Go.Proofs.YtlfbaggcfaenlaaGreat
open Go.RowKit
set_option linter.unusedVariables false
theorem fold_data3 (l : List Int) : ∀ r : ByteArray, (l.foldl (fun r n => r.push (UInt8.ofNat n.toNat)) r).data.toList = r.data.toList ++ l.map (fun n => UInt8.ofNat n.toNat) := by
  induction l with
  | nil => intro r; simp
  | cons a l ih => intro r; rw [List.foldl_cons, ih]; simp [ByteArray.data_push]
theorem byN_strOf3 (l : List Int) (i : Nat) (x : Int) (h : l[i]? = some x) (h0 : 0 ≤ x) (h1 : x < 256) : byN (strOf l) i = x := by
  unfold byN strOf
  rw [fold_data3]
  rw [show (ByteArray.empty.data.toList ++ l.map (fun n => UInt8.ofNat n.toNat)) = l.map (fun n => UInt8.ofNat n.toNat) from rfl, List.getD_eq_getElem?_getD, List.getElem?_map, h]
  show ((UInt8.ofNat x.toNat).toNat : Int) = x
  rw [UInt8.toNat_ofNat']
  omega
theorem strOf_size3 (l : List Int) : (strOf l).size = l.length := by
  have h := congrArg List.length (fold_data3 l ByteArray.empty)
  rw [List.length_append, List.length_map] at h
  have h0 : ByteArray.empty.data.toList.length = 0 := rfl
  rw [h0, Nat.zero_add] at h
  rw [Array.length_toList] at h
  exact h
end Go.Proofs.YtlfbaggcfaenlaaGreat

