/- sniff.others: a map made; what it holds. -/
import Derived.Test.YtlhcjnjajkfahaaNA
import Derived.Maps.OwnSet
import Derived.StringKeys
namespace Go.Proofs.Ytlhcjnjajkfahaa
open Go.RowKit Go.Maps
set_option linter.unusedVariables false
set_option linter.unusedSimpArgs false
def i64D (n : Int) : DataW Unit := .lit (.int .i64 n)
def otD : DataW Unit := ((((((DataW.map []).put (.string [100, 105, 98]) (i64D 1)).put (.string [112, 98, 109]) (i64D 3)).put (.string [112, 103, 109]) (i64D 3)).put (.string [112, 110, 109]) (i64D 3)).put (.string [99, 117, 114]) (i64D 4)).put (.string [115, 117, 110]) (i64D 8)
/-- The further extensions' formats; 0: there is none. -/
def othF (L : List UInt8) : Int :=
  if L = [115, 117, 110] then 8 else if L = [99, 117, 114] then 4 else if L = [112, 110, 109] then 3 else if L = [112, 103, 109] then 3 else if L = [112, 98, 109] then 3 else if L = [100, 105, 98] then 1 else 0
theorem at_put {D : DataW Unit} (hD : IsMap D) (k k' : List UInt8) (d z : DataW Unit) : (D.put (.string k) d).atKey (.string k') z = if k' = k then d else D.atKey (.string k') z := by
  by_cases e : k' = k
  · subst e; rw [if_pos rfl]; exact atKey_put_same hD (show WideAt.IsKeyLit (.string k') from trivial) d z
  · rw [if_neg e]; exact atKey_put_other (by intro h; injection h with h; exact e h) d z
theorem has_put {D : DataW Unit} (hD : IsMap D) (k k' : List UInt8) (d : DataW Unit) : Maps.has (D.put (.string k) d) (.string k') = if k' = k then true else Maps.has D (.string k') := by
  by_cases e : k' = k
  · subst e; rw [if_pos rfl]; exact has_put_same hD (show WideAt.IsKeyLit (.string k') from trivial) d
  · rw [if_neg e]; exact has_put_other (by intro h; injection h with h; exact e h) d
theorem otD_at (L : List UInt8) : otD.atKey (.string L) (.lit (.int .i64 0)) = .lit (.int .i64 (othF L)) := by
  unfold otD othF
  have m0 : IsMap (.map [] : DataW Unit) := isMap_empty
  have m1 := m0.put (.string [100, 105, 98]) (i64D 1)
  have m2 := m1.put (.string [112, 98, 109]) (i64D 3)
  have m3 := m2.put (.string [112, 103, 109]) (i64D 3)
  have m4 := m3.put (.string [112, 110, 109]) (i64D 3)
  have m5 := m4.put (.string [99, 117, 114]) (i64D 4)
  rw [at_put m5, at_put m4, at_put m3, at_put m2, at_put m1, at_put m0]
  unfold i64D
  repeat' split
  all_goals rfl
theorem otD_has (L : List UInt8) : Maps.has otD (.string L) = (othF L != 0) := by
  unfold otD othF
  have m0 : IsMap (.map [] : DataW Unit) := isMap_empty
  have m1 := m0.put (.string [100, 105, 98]) (i64D 1)
  have m2 := m1.put (.string [112, 98, 109]) (i64D 3)
  have m3 := m2.put (.string [112, 103, 109]) (i64D 3)
  have m4 := m3.put (.string [112, 110, 109]) (i64D 3)
  have m5 := m4.put (.string [99, 117, 114]) (i64D 4)
  rw [has_put m5, has_put m4, has_put m3, has_put m2, has_put m1, has_put m0]
  repeat' split
  all_goals rfl
theorem law30 : Keyed Try.prog 9 := string_keyed Try.underlying9
theorem zero30 (w : World) : (zeroValue 3).run Try.prog w = .ok (.int .i64 0) w := by kernel_rfl
set_option maxRecDepth 100000 in
set_option maxHeartbeats 4000000 in
theorem others_any (w : World) : Calls Try.prog 66 #[] w fun e w' => e = .returned (.map (some w.heap.size)) ∧ w'.ownsMap Try.prog 9 (plainElem Try.prog 3) w.heap.size 6 otD ∧ Below w.heap.size w w' := by
  have hmm := @run_makeMap Try.prog
  have hown := World.ownsMap_made w Try.prog 9 (plainElem (H := Unit) Try.prog 3)
  have B0 := (Below.refl w.heap.size w).alloc (Nat.le_refl _) (.map #[] 0)
  obtain ⟨w1, r1, o1, g1⟩ := hown.update (t := 89) (key := .string ⟨#[100, 105, 98]⟩) (val := .int .i64 1) law30 Try.underlying89 (by unfold maxLen; omega) (WideMaps.keyOf_string_mk Try.underlying9 (by decide)) (plainElem_int Try.underlying3 (by decide))
  have B1 := B0.grown g1 (B0.size) (fun j hj => by cases hj; exact Nat.le_refl _)
  obtain ⟨w2, r2, o2, g2⟩ := o1.update (t := 89) (key := .string ⟨#[112, 98, 109]⟩) (val := .int .i64 3) law30 Try.underlying89 (by unfold maxLen; omega) (WideMaps.keyOf_string_mk Try.underlying9 (by decide)) (plainElem_int Try.underlying3 (by decide))
  have B2 := B1.grown g2 (B1.size) (fun j hj => by cases hj; exact Nat.le_refl _)
  obtain ⟨w3, r3, o3, g3⟩ := o2.update (t := 89) (key := .string ⟨#[112, 103, 109]⟩) (val := .int .i64 3) law30 Try.underlying89 (by unfold maxLen; omega) (WideMaps.keyOf_string_mk Try.underlying9 (by decide)) (plainElem_int Try.underlying3 (by decide))
  have B3 := B2.grown g3 (B2.size) (fun j hj => by cases hj; exact Nat.le_refl _)
  obtain ⟨w4, r4, o4, g4⟩ := o3.update (t := 89) (key := .string ⟨#[112, 110, 109]⟩) (val := .int .i64 3) law30 Try.underlying89 (by unfold maxLen; omega) (WideMaps.keyOf_string_mk Try.underlying9 (by decide)) (plainElem_int Try.underlying3 (by decide))
  have B4 := B3.grown g4 (B3.size) (fun j hj => by cases hj; exact Nat.le_refl _)
  obtain ⟨w5, r5, o5, g5⟩ := o4.update (t := 89) (key := .string ⟨#[99, 117, 114]⟩) (val := .int .i64 4) law30 Try.underlying89 (by unfold maxLen; omega) (WideMaps.keyOf_string_mk Try.underlying9 (by decide)) (plainElem_int Try.underlying3 (by decide))
  have B5 := B4.grown g5 (B4.size) (fun j hj => by cases hj; exact Nat.le_refl _)
  obtain ⟨w6, r6, o6, g6⟩ := o5.update (t := 89) (key := .string ⟨#[115, 117, 110]⟩) (val := .int .i64 8) law30 Try.underlying89 (by unfold maxLen; omega) (WideMaps.keyOf_string_mk Try.underlying9 (by decide)) (plainElem_int Try.underlying3 (by decide))
  have B6 := B5.grown g6 (B5.size) (fun j hj => by cases hj; exact Nat.le_refl _)
  have HO := Lib.hid o6
  have BL := Lib.hid B6
  clear o1 o2 o3 o4 o5 o6 g1 g2 g3 g4 g5 g6 hown
  go_enter Try.func66, Try.ntmps66
  go_wp2
  go_ret
  exact ⟨rfl, HO.out, BL.out⟩
end Go.Proofs.Ytlhcjnjajkfahaa
