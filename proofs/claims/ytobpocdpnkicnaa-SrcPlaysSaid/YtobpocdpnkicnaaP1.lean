/- The reference of layer 5: Read, walked. -/
import Derived.Test.YtobpocdpnkicnaaP0
namespace Go.Proofs.Ytobpocdpnkicnaa
open Go.RowKit
set_option linter.unusedVariables false
theorem Obj1.there {w : World} {b : Nat} {cs : Array Value} {T : TypeId} (h : Obj1 w b cs T) (o n : Nat) (hn : o + n ≤ cs.size) : w.there b o n := fun j hj => by
  refine ⟨?_, h.frozen _⟩
  rw [h.cell, Array.getElem?_eq_getElem (by omega)]; rfl
theorem Obj1.range0 {w : World} {b : Nat} {cs : List Value} {T : TypeId} (h : Obj1 w b cs.toArray T) : w.rangeAt b 0 cs := fun j v hv => by
  rw [h.cell, Nat.zero_add]; simpa using hv
def setL : Array Value → Nat → List Value → Array Value
  | cs, _, [] => cs
  | cs, o, v :: r => setL (cs.setIfInBounds o v) (o + 1) r
theorem Stored.obj {w w2 : World} {b o : Nat} {vs : List Value} {cs : Array Value} {T : TypeId} (hst : Stored w b o vs w2) (h : Obj1 w b cs T) : Obj1 w2 b (setL cs o vs) T := by
  rw [show w2 = _ from hst]; clear hst
  induction vs generalizing w o cs with
  | nil => exact h
  | cons v r ih => rw [World.setCells, setL]; exact ih (h.set o v)
theorem Stored.oth {w w2 : World} {b o b' : Nat} {vs : List Value} {cs : Array Value} {T : TypeId} (hst : Stored w b o vs w2) (h : Obj1 w b' cs T) (hn : b' ≠ b) : Obj1 w2 b' cs T := by
  rw [show w2 = _ from hst]; clear hst
  induction vs generalizing w o with
  | nil => exact h
  | cons v r ih => rw [World.setCells]; exact ih (h.set_other _ _ hn)
/-- The document's source, out of the program's. -/
def St (x : Sr) (l : Led) : List Value := [.string x.s, .int .i64 x.b, .int .i64 x.e, .int .i64 x.p] ++ rcells l
structure Led.inv (l : Led) : Prop where
  rs : l.br = true ↔ l.rs ≠ 0
  ok : l.ok
theorem Led.work_inv {l : Led} (h : l.inv) (n : Int) : (l.work n).1.inv := by
  refine ⟨?_, Led.work_ok h.ok n⟩
  unfold Led.work
  by_cases h1 : l.br = true
  · rw [if_pos h1]; exact h.rs
  · rw [if_neg h1]
    by_cases h2 : n < 0 ∨ l.mx - l.st < n
    · rw [if_pos h2]; simp [Led.refuse]
    · rw [if_neg h2]; exact h.rs
def rRead (x : Sr) (l : Led) (n : Int) (e : Ending) : Prop := e = .returned (.tuple #[.agg (St (x.next l n).1.1 (x.next l n).1.2).toArray, .string (x.next l n).2.1, .bool (x.next l n).2.2])
set_option maxRecDepth 100000 in
set_option maxHeartbeats 4000000 in
theorem rread_any (x : Sr) (l : Led) (n : Int) (w : World) (hi : l.inv) (hok : x.ok) : Calls Try.prog 94 #[.agg (St x l).toArray, .int .i64 n] w fun e w' => rRead x l n e ∧ Below w.heap.size w w' := by
  have HWK := Lib.hid (fun w0 => rwork_any l 1 w0 hi.rs hi.ok)
  obtain ⟨L, s, b, e, p⟩ := x
  obtain ⟨h1, h2, h3, h4⟩ := hok
  simp only at h1 h2 h3 h4
  unfold rRead Sr.next
  unfold rWork at HWK
  clear hi
  obtain ⟨mw, mh, mb, mx, bt, pk, st, br, rs, ak⟩ := l
  obtain ⟨⟨⟨nw, nh, nb, nx, ct, qk, tt, cr, ss, bk⟩, ok⟩, hr⟩ : ∃ r, Led.work ⟨mw, mh, mb, mx, bt, pk, st, br, rs, ak⟩ 1 = r := ⟨_, rfl⟩
  rw [hr] at HWK ⊢
  unfold St rcells
  unfold rcells at HWK
  simp only at HWK ⊢
  simp only [List.cons_append, List.nil_append] at HWK ⊢
  clear hr
  have O0 := Lib.hid (fun T' => ((obj1_new w [.string s, .int .i64 b, .int .i64 e, .int .i64 p, .int .i64 mw, .int .i64 mh, .int .i64 mb, .int .i64 mx, .int .i64 bt, .int .i64 pk, .int .i64 st, .int .i64 rs, .int .i64 ak].toArray 105).alloc (.cells [.string ByteArray.empty, .int .i64 0, .int .i64 0, .int .i64 0, .int .i64 0, .int .i64 0, .int .i64 0, .int .i64 0, .int .i64 0, .int .i64 0, .int .i64 0, .int .i64 0, .int .i64 0].toArray T')))
  have O1 := Lib.hid (show Obj1 ((w.alloc (.cells [.string s, .int .i64 b, .int .i64 e, .int .i64 p, .int .i64 mw, .int .i64 mh, .int .i64 mb, .int .i64 mx, .int .i64 bt, .int .i64 pk, .int .i64 st, .int .i64 rs, .int .i64 ak].toArray 105)).alloc (.cells [.string ByteArray.empty, .int .i64 0, .int .i64 0, .int .i64 0, .int .i64 0, .int .i64 0, .int .i64 0, .int .i64 0, .int .i64 0, .int .i64 0, .int .i64 0, .int .i64 0, .int .i64 0].toArray 105)) (w.heap.size + 1) [.string ByteArray.empty, .int .i64 0, .int .i64 0, .int .i64 0, .int .i64 0, .int .i64 0, .int .i64 0, .int .i64 0, .int .i64 0, .int .i64 0, .int .i64 0, .int .i64 0, .int .i64 0].toArray 105 from obj1_new2 w _ _ rfl)
  have O0 := Lib.hid (O0.out 105)
  have BB := Lib.hid (((Below.refl w.heap.size w).alloc (Nat.le_refl _) (.cells [.string s, .int .i64 b, .int .i64 e, .int .i64 p, .int .i64 mw, .int .i64 mh, .int .i64 mb, .int .i64 mx, .int .i64 bt, .int .i64 pk, .int .i64 st, .int .i64 rs, .int .i64 ak].toArray 105)).alloc (by simp) (.cells [.string ByteArray.empty, .int .i64 0, .int .i64 0, .int .i64 0, .int .i64 0, .int .i64 0, .int .i64 0, .int .i64 0, .int .i64 0, .int .i64 0, .int .i64 0, .int .i64 0, .int .i64 0].toArray 105))
  by_cases hg : ok = true ∧ 0 ≤ n ∧ n ≤ (e : Int) - p
  · rw [if_pos hg]
    obtain ⟨rfl, g0, g1⟩ := hg
    obtain ⟨n, rfl⟩ := Int.eq_ofNat_of_zero_le g0
    have G0 : decide ((n : Int) < 0) = false := by rw [decide_eq_false_iff_not]; omega
    have G1 : decide ((n : Int) > (e : Int) - p) = false := by rw [decide_eq_false_iff_not]; omega
    go_enter Try.func94, Try.ntmps94
    go_wp2_with (first
      | ((go_at_call 110; (with_reducible refine (HWK.out _).mono ?_); rintro e w1 ⟨rfl, hb1⟩); have OH1 := Lib.hid (O0.out.below hb1 (by simp; omega)); have OR1 := Lib.hid (O1.out.below hb1 (by simp)); have B1 := Lib.hid (bthen hb1 BB.out (by simp; omega)); have z1 : w.heap.size + 1 < w1.heap.size := (by have := OR1.out.lt; omega); clear hb1)
      | (refine store_gen rfl 102 (.tmp 17) (.tmp 16) rfl w.heap.size 4 #[.int .i64 nw, .int .i64 nh, .int .i64 nb, .int .i64 nx, .int .i64 ct, .int .i64 qk, .int .i64 tt, .int .i64 ss, .int .i64 bk] rfl rfl ((OH1.out.alloc _).there 4 9 (by simp)) (by kernel_rfl) rfl ?_; intro w2 hst; have OH2 := Lib.hid (show Obj1 w2 w.heap.size [.string s, .int .i64 b, .int .i64 e, .int .i64 p, .int .i64 nw, .int .i64 nh, .int .i64 nb, .int .i64 nx, .int .i64 ct, .int .i64 qk, .int .i64 tt, .int .i64 ss, .int .i64 bk].toArray 105 from (by have := hst.obj (OH1.out.alloc _); simpa [setL] using this)); have OR2 := Lib.hid (hst.oth (OR1.out.alloc _) (by omega)); have B2 := Lib.hid (hst.below (B1.out.alloc (by omega) _) (Nat.le_refl _)); have k2 : w2.cell? ⟨w.heap.size, 2, none⟩ = some (.int .i64 e) := (OH2.out.cell 2).trans rfl; have k3 : w2.cell? ⟨w.heap.size, 3, none⟩ = some (.int .i64 p) := (OH2.out.cell 3).trans rfl; have k0 : w2.cell? ⟨w.heap.size, 0, none⟩ = some (.string s) := (OH2.out.cell 0).trans rfl; have f3 := OH2.out.frozen 3; have OHP := Lib.hid (show Obj1 (w2.setCell ⟨w.heap.size, 3, none⟩ (.int .i64 ((p : Int) + n))) w.heap.size [.string s, .int .i64 b, .int .i64 e, .int .i64 ((p : Int) + n), .int .i64 nw, .int .i64 nh, .int .i64 nb, .int .i64 nx, .int .i64 ct, .int .i64 qk, .int .i64 tt, .int .i64 ss, .int .i64 bk].toArray 105 from (by have := OH2.out.set 3 (.int .i64 ((p : Int) + n)); simpa using this)); have ORP := Lib.hid (show Obj1 (w2.setCell ⟨w.heap.size, 3, none⟩ (.int .i64 ((p : Int) + n))) (w.heap.size + 1) _ _ from OR2.out.set_other _ _ (by simp)); have BP := Lib.hid (show Below w.heap.size w (w2.setCell ⟨w.heap.size, 3, none⟩ (.int .i64 ((p : Int) + n))) from B2.out.setCell (Nat.le_refl _) _); clear hst)
      | (refine wpList_load_mid rfl 105 (.tmp 2) rfl w.heap.size 0 rfl [.string s, .int .i64 b, .int .i64 e, .int .i64 ((p : Int) + n), .int .i64 nw, .int .i64 nh, .int .i64 nb, .int .i64 nx, .int .i64 ct, .int .i64 qk, .int .i64 tt, .int .i64 ss, .int .i64 bk] _ OHP.out.range0 Try.underlying105 rfl (by kernel_rfl) ?_)
      | (refine store_gen rfl 105 (.tmp 4) (.tmp 48) rfl (w.heap.size + 1) 0 [.string s, .int .i64 b, .int .i64 e, .int .i64 ((p : Int) + n), .int .i64 nw, .int .i64 nh, .int .i64 nb, .int .i64 nx, .int .i64 ct, .int .i64 qk, .int .i64 tt, .int .i64 ss, .int .i64 bk].toArray rfl rfl (ORP.out.there 0 13 (by simp)) (by kernel_rfl) rfl ?_; intro w3 hst; have R := Lib.hid (hst.range (ORP.out.there 0 13 (by simp))); have B := Lib.hid (hst.below BP.out (by omega)); clear hst))
    refine bodyPost_ret (v := .tuple #[.agg [.string s, .int .i64 b, .int .i64 e, .int .i64 ((p : Int) + n), .int .i64 nw, .int .i64 nh, .int .i64 nb, .int .i64 nx, .int .i64 ct, .int .i64 qk, .int .i64 tt, .int .i64 ss, .int .i64 bk].toArray, .string (s.extract p (p + n)), .bool true]) ?_ rfl ⟨?_, B.out⟩
    · exact results_c2 Try.results94 _ _ _ _ _ rfl R.out Try.underlying105 rfl (by kernel_rfl)
    · simp
  · rw [if_neg hg]
    have hg : ok = false ∨ (ok = true ∧ n < 0) ∨ (ok = true ∧ 0 ≤ n ∧ (e : Int) - p < n) := by
      cases ok
      · exact Or.inl rfl
      · refine Or.inr ?_
        by_cases hn : n < 0
        · exact Or.inl ⟨rfl, hn⟩
        · exact Or.inr ⟨rfl, by omega, by have : ¬ (n ≤ (e : Int) - p) := fun h => hg ⟨rfl, by omega, h⟩; omega⟩
    rcases hg with rfl | ⟨rfl, g0⟩ | ⟨rfl, g0, g1⟩
    · go_enter Try.func94, Try.ntmps94
      go_wp2_with (first
        | ((go_at_call 110; (with_reducible refine (HWK.out _).mono ?_); rintro e w1 ⟨rfl, hb1⟩); have OH1 := Lib.hid (O0.out.below hb1 (by simp; omega)); have OR1 := Lib.hid (O1.out.below hb1 (by simp)); have B1 := Lib.hid (bthen hb1 BB.out (by simp; omega)); have z1 : w.heap.size + 1 < w1.heap.size := (by have := OR1.out.lt; omega); clear hb1)
        | (refine store_gen rfl 102 (.tmp 17) (.tmp 16) rfl w.heap.size 4 #[.int .i64 nw, .int .i64 nh, .int .i64 nb, .int .i64 nx, .int .i64 ct, .int .i64 qk, .int .i64 tt, .int .i64 ss, .int .i64 bk] rfl rfl ((OH1.out.alloc _).there 4 9 (by simp)) (by kernel_rfl) rfl ?_; intro w2 hst; have OH2 := Lib.hid (show Obj1 w2 w.heap.size [.string s, .int .i64 b, .int .i64 e, .int .i64 p, .int .i64 nw, .int .i64 nh, .int .i64 nb, .int .i64 nx, .int .i64 ct, .int .i64 qk, .int .i64 tt, .int .i64 ss, .int .i64 bk].toArray 105 from (by have := hst.obj (OH1.out.alloc _); simpa [setL] using this)); have OR2 := Lib.hid (hst.oth (OR1.out.alloc _) (by omega)); have B2 := Lib.hid (hst.below (B1.out.alloc (by omega) _) (Nat.le_refl _)); have k2 : w2.cell? ⟨w.heap.size, 2, none⟩ = some (.int .i64 e) := (OH2.out.cell 2).trans rfl; have k3 : w2.cell? ⟨w.heap.size, 3, none⟩ = some (.int .i64 p) := (OH2.out.cell 3).trans rfl; have k0 : w2.cell? ⟨w.heap.size, 0, none⟩ = some (.string s) := (OH2.out.cell 0).trans rfl; have f3 := OH2.out.frozen 3; clear hst)
        | (refine wpList_load_mid rfl 105 (.tmp 2) rfl w.heap.size 0 rfl [.string s, .int .i64 b, .int .i64 e, .int .i64 p, .int .i64 nw, .int .i64 nh, .int .i64 nb, .int .i64 nx, .int .i64 ct, .int .i64 qk, .int .i64 tt, .int .i64 ss, .int .i64 bk] _ OH2.out.range0 Try.underlying105 rfl (by kernel_rfl) ?_)
        | (refine store_gen rfl 105 (.tmp 4) (.tmp 33) rfl (w.heap.size + 1) 0 [.string s, .int .i64 b, .int .i64 e, .int .i64 p, .int .i64 nw, .int .i64 nh, .int .i64 nb, .int .i64 nx, .int .i64 ct, .int .i64 qk, .int .i64 tt, .int .i64 ss, .int .i64 bk].toArray rfl rfl (OR2.out.there 0 13 (by simp)) (by kernel_rfl) rfl ?_; intro w3 hst; have R := Lib.hid (hst.range (OR2.out.there 0 13 (by simp))); have B := Lib.hid (hst.below B2.out (by omega)); clear hst))
      refine bodyPost_ret (v := .tuple #[.agg [.string s, .int .i64 b, .int .i64 e, .int .i64 p, .int .i64 nw, .int .i64 nh, .int .i64 nb, .int .i64 nx, .int .i64 ct, .int .i64 qk, .int .i64 tt, .int .i64 ss, .int .i64 bk].toArray, .string ByteArray.empty, .bool false]) ?_ rfl ⟨rfl, B.out⟩
      exact results_c2 Try.results94 _ _ _ _ _ rfl R.out Try.underlying105 rfl (by kernel_rfl)
    · have G0 : decide (n < 0) = true := by rw [decide_eq_true_iff]; exact g0
      go_enter Try.func94, Try.ntmps94
      go_wp2_with (first
        | ((go_at_call 110; (with_reducible refine (HWK.out _).mono ?_); rintro e w1 ⟨rfl, hb1⟩); have OH1 := Lib.hid (O0.out.below hb1 (by simp; omega)); have OR1 := Lib.hid (O1.out.below hb1 (by simp)); have B1 := Lib.hid (bthen hb1 BB.out (by simp; omega)); have z1 : w.heap.size + 1 < w1.heap.size := (by have := OR1.out.lt; omega); clear hb1)
        | (refine store_gen rfl 102 (.tmp 17) (.tmp 16) rfl w.heap.size 4 #[.int .i64 nw, .int .i64 nh, .int .i64 nb, .int .i64 nx, .int .i64 ct, .int .i64 qk, .int .i64 tt, .int .i64 ss, .int .i64 bk] rfl rfl ((OH1.out.alloc _).there 4 9 (by simp)) (by kernel_rfl) rfl ?_; intro w2 hst; have OH2 := Lib.hid (show Obj1 w2 w.heap.size [.string s, .int .i64 b, .int .i64 e, .int .i64 p, .int .i64 nw, .int .i64 nh, .int .i64 nb, .int .i64 nx, .int .i64 ct, .int .i64 qk, .int .i64 tt, .int .i64 ss, .int .i64 bk].toArray 105 from (by have := hst.obj (OH1.out.alloc _); simpa [setL] using this)); have OR2 := Lib.hid (hst.oth (OR1.out.alloc _) (by omega)); have B2 := Lib.hid (hst.below (B1.out.alloc (by omega) _) (Nat.le_refl _)); have k2 : w2.cell? ⟨w.heap.size, 2, none⟩ = some (.int .i64 e) := (OH2.out.cell 2).trans rfl; have k3 : w2.cell? ⟨w.heap.size, 3, none⟩ = some (.int .i64 p) := (OH2.out.cell 3).trans rfl; have k0 : w2.cell? ⟨w.heap.size, 0, none⟩ = some (.string s) := (OH2.out.cell 0).trans rfl; have f3 := OH2.out.frozen 3; clear hst)
        | (refine wpList_load_mid rfl 105 (.tmp 2) rfl w.heap.size 0 rfl [.string s, .int .i64 b, .int .i64 e, .int .i64 p, .int .i64 nw, .int .i64 nh, .int .i64 nb, .int .i64 nx, .int .i64 ct, .int .i64 qk, .int .i64 tt, .int .i64 ss, .int .i64 bk] _ OH2.out.range0 Try.underlying105 rfl (by kernel_rfl) ?_)
        | (refine store_gen rfl 105 (.tmp 4) (.tmp 33) rfl (w.heap.size + 1) 0 [.string s, .int .i64 b, .int .i64 e, .int .i64 p, .int .i64 nw, .int .i64 nh, .int .i64 nb, .int .i64 nx, .int .i64 ct, .int .i64 qk, .int .i64 tt, .int .i64 ss, .int .i64 bk].toArray rfl rfl (OR2.out.there 0 13 (by simp)) (by kernel_rfl) rfl ?_; intro w3 hst; have R := Lib.hid (hst.range (OR2.out.there 0 13 (by simp))); have B := Lib.hid (hst.below B2.out (by omega)); clear hst))
      refine bodyPost_ret (v := .tuple #[.agg [.string s, .int .i64 b, .int .i64 e, .int .i64 p, .int .i64 nw, .int .i64 nh, .int .i64 nb, .int .i64 nx, .int .i64 ct, .int .i64 qk, .int .i64 tt, .int .i64 ss, .int .i64 bk].toArray, .string ByteArray.empty, .bool false]) ?_ rfl ⟨rfl, B.out⟩
      exact results_c2 Try.results94 _ _ _ _ _ rfl R.out Try.underlying105 rfl (by kernel_rfl)
    · have G0 : decide (n < 0) = false := by rw [decide_eq_false_iff_not]; omega
      have G1 : decide (n > (e : Int) - p) = true := by rw [decide_eq_true_iff]; omega
      go_enter Try.func94, Try.ntmps94
      go_wp2_with (first
        | ((go_at_call 110; (with_reducible refine (HWK.out _).mono ?_); rintro e w1 ⟨rfl, hb1⟩); have OH1 := Lib.hid (O0.out.below hb1 (by simp; omega)); have OR1 := Lib.hid (O1.out.below hb1 (by simp)); have B1 := Lib.hid (bthen hb1 BB.out (by simp; omega)); have z1 : w.heap.size + 1 < w1.heap.size := (by have := OR1.out.lt; omega); clear hb1)
        | (refine store_gen rfl 102 (.tmp 17) (.tmp 16) rfl w.heap.size 4 #[.int .i64 nw, .int .i64 nh, .int .i64 nb, .int .i64 nx, .int .i64 ct, .int .i64 qk, .int .i64 tt, .int .i64 ss, .int .i64 bk] rfl rfl ((OH1.out.alloc _).there 4 9 (by simp)) (by kernel_rfl) rfl ?_; intro w2 hst; have OH2 := Lib.hid (show Obj1 w2 w.heap.size [.string s, .int .i64 b, .int .i64 e, .int .i64 p, .int .i64 nw, .int .i64 nh, .int .i64 nb, .int .i64 nx, .int .i64 ct, .int .i64 qk, .int .i64 tt, .int .i64 ss, .int .i64 bk].toArray 105 from (by have := hst.obj (OH1.out.alloc _); simpa [setL] using this)); have OR2 := Lib.hid (hst.oth (OR1.out.alloc _) (by omega)); have B2 := Lib.hid (hst.below (B1.out.alloc (by omega) _) (Nat.le_refl _)); have k2 : w2.cell? ⟨w.heap.size, 2, none⟩ = some (.int .i64 e) := (OH2.out.cell 2).trans rfl; have k3 : w2.cell? ⟨w.heap.size, 3, none⟩ = some (.int .i64 p) := (OH2.out.cell 3).trans rfl; have k0 : w2.cell? ⟨w.heap.size, 0, none⟩ = some (.string s) := (OH2.out.cell 0).trans rfl; have f3 := OH2.out.frozen 3; clear hst)
        | (refine wpList_load_mid rfl 105 (.tmp 2) rfl w.heap.size 0 rfl [.string s, .int .i64 b, .int .i64 e, .int .i64 p, .int .i64 nw, .int .i64 nh, .int .i64 nb, .int .i64 nx, .int .i64 ct, .int .i64 qk, .int .i64 tt, .int .i64 ss, .int .i64 bk] _ OH2.out.range0 Try.underlying105 rfl (by kernel_rfl) ?_)
        | (refine store_gen rfl 105 (.tmp 4) (.tmp 33) rfl (w.heap.size + 1) 0 [.string s, .int .i64 b, .int .i64 e, .int .i64 p, .int .i64 nw, .int .i64 nh, .int .i64 nb, .int .i64 nx, .int .i64 ct, .int .i64 qk, .int .i64 tt, .int .i64 ss, .int .i64 bk].toArray rfl rfl (OR2.out.there 0 13 (by simp)) (by kernel_rfl) rfl ?_; intro w3 hst; have R := Lib.hid (hst.range (OR2.out.there 0 13 (by simp))); have B := Lib.hid (hst.below B2.out (by omega)); clear hst))
      refine bodyPost_ret (v := .tuple #[.agg [.string s, .int .i64 b, .int .i64 e, .int .i64 p, .int .i64 nw, .int .i64 nh, .int .i64 nb, .int .i64 nx, .int .i64 ct, .int .i64 qk, .int .i64 tt, .int .i64 ss, .int .i64 bk].toArray, .string ByteArray.empty, .bool false]) ?_ rfl ⟨rfl, B.out⟩
      exact results_c2 Try.results94 _ _ _ _ _ rfl R.out Try.underlying105 rfl (by kernel_rfl)
end Go.Proofs.Ytobpocdpnkicnaa
