/- icodir.Bytes: the closure that puts bytes, walked. -/
import Derived.Test.YtomikbecbbjhoaaI7
import Derived.Test.YtomikbecbbjhoaaO6
namespace Go.Proofs.Ytomikbecbbjhoaa
open Go.RowKit
set_option linter.unusedVariables false
set_option linter.unusedSimpArgs false
/-- The bytes that were put, in memory: a slice in a variable of its own. -/
structure OutAt (w : World) (OB base : Nat) (L : List Int) (u : Value) : Prop where
  cell : Obj1 w OB #[u] 100
  own : w.ownsRow base 5 1 u L.length (L.map (.int .u8))
  lt : OB < base
  bs : base ≤ w.heap.size
def PutPost (w : World) (OB base : Nat) (u : Value) (L : List Int) (e : Ending) (w' : World) : Prop :=
  e = .returned (.tuple #[]) ∧ ∃ u', OutAt w' OB base L u' ∧ Chg (fun k => k = OB ∨ u.ownBlock = some k) w w' ∧ ∀ g, u'.ownBlock = some g → u.ownBlock = some g ∨ w.heap.size ≤ g
set_option maxRecDepth 100000 in
set_option maxHeartbeats 4000000 in
theorem iput_any (v : Int) (n : Nat) (OB base : Nat) (L : List Int) (u : Value) (w : World) (hn : n ≤ 4) (hL : L.length ≤ 4000) (h : OutAt w OB base L u) :
    Calls Try.prog 84 #[.int .i64 v, .int .i64 n, .pointer (some ⟨OB, 0, none⟩)] w (PutPost w OB base u (L ++ bytesF v n)) := by
  go_enter Try.func84, Try.ntmps84
  go_upto_region 1 with (fail)
  go_loopw [5, 7] (fun q5 c wr => ∃ (j : Nat) (u' : Value), j ≤ n ∧ c = .int .i64 j ∧ OutAt wr OB base (L ++ bytesF v j) u' ∧ Chg (fun k => k = OB ∨ u.ownBlock = some k) w wr ∧ ∀ g, u'.ownBlock = some g → u.ownBlock = some g ∨ w.heap.size ≤ g) (fun _ c _ => n - (intOf c).toNat)
  case atStart => exact ⟨0, u, by omega, rfl, by simpa [bytesF] using h, Chg.refl _ _, fun g hg => Or.inl hg⟩
  case round =>
    obtain ⟨j, u', hj, rfl, hO, hC, hu⟩ := hrel
    have HO := Lib.hid hO
    have HC := Lib.hid hC
    have HU := Lib.hid hu
    have zsz := hC.size
    have hbs := hO.bs
    clear hO hC hu h
    by_cases hlt : j < n
    rotate_left
    · have hge : n ≤ j := by omega
      have E := Lib.hid (show j = n by omega)
      go_wp2
      go_end0
      exact ⟨rfl, u', by rw [← E.out]; exact HO.out, HC.out, HU.out⟩
    · have hge : ¬ n ≤ j := by omega
      have hlen : (L ++ bytesF v j).length ≤ 4004 := by rw [List.length_append, bytesF_len]; omega
      have HB := Lib.hid (show byteAt v j = IntKind.u8.wrap (v / 2 ^ (8 * (j : Int)).toNat) by unfold byteAt; rw [show (8 * (j : Int)).toNat = 8 * j by omega]; rfl)
      obtain ⟨P, hP⟩ : ∃ P, L ++ bytesF v j = P := ⟨_, rfl⟩
      rw [hP] at HO hlen
      have HP := Lib.hid hP
      clear hP
      have eW : IntKind.i64.wrap (8 * (j : Int)) = 8 * (j : Int) := i64_wraps _ (by omega) (by omega)
      have h0 : (0 : Int) ≤ 8 * (j : Int) := by omega
      have h0n : ¬ (8 * (j : Int) < 0) := by omega
      have c0 : wr.cell? ⟨OB, 0, none⟩ = some u' := (HO.out.cell.cell 0).trans rfl
      go_upto_region 3 with (fail)
      have f0 : wr.frozen? ⟨OB, 0, none⟩ = false := HO.out.cell.frozen 0
      have hlt0 := HO.out.lt
      have hOB := HO.out.cell.lt
      have hOBn : OB ≠ wr.heap.size := by omega
      have c2 : (wr.alloc (.cells #[.int .u8 (IntKind.u8.wrap (v / 2 ^ (8 * (j : Int)).toNat))] 5)).cell? ⟨OB, 0, none⟩ = some u' := ((HO.out.cell.alloc _).cell 0).trans rfl
      go_region_law (refine step_app1k rfl (.tmp 10) (.tmp 16) 100 rfl base 5 (.int .u8 0) 1 Try.underlying100 (by kernel_rfl) rfl _ _ _ rfl HO.out.own _ rfl _ rfl (by omega) (by unfold maxLen; omega) hbs ?_; intro g cap w1 hown1 hC1 hg1 hz1; have O1 := Lib.hid hown1; have C1 := Lib.hid hC1; have G1 := Lib.hid hg1; have OC := Lib.hid (hC1.obj HO.out.cell (fun e => by have := (owns_blk HO.out.own e).1; omega)); have c1 : w1.cell? ⟨OB, 0, none⟩ = some u' := (OC.out.cell 0).trans rfl; have f1 : w1.frozen? ⟨OB, 0, none⟩ = false := OC.out.frozen 0; clear hown1 hC1 hg1)
      all_goals go_wp2_with fail
      all_goals go_roundw
      all_goals try (show _ < (_ : Nat); simp [intOf]; omega)
      all_goals refine ⟨j + 1, .slice (some ⟨g, 0, none⟩) (P.length + 1) cap, by omega, by go_num, ⟨(OC.out.set 0 _).cells rfl, ?_, hlt0, ?_⟩, ?_, ?_⟩
      all_goals first
        | exact owns_eq (owns_set2 O1.out _ hlt0) (by rw [bytesF, ← List.append_assoc, HP.out]; simp) (by rw [bytesF, ← List.append_assoc, HP.out, HB.out, List.map_append]; rfl)
        | (have := C1.out.size; simp only [World.size_setCell]; omega)
        | exact (HC.out.after C1.out fun k hk hs => (HU.out k hs).elim Or.inr fun h => by omega).set _ _ (Or.inl (Or.inl rfl))
        | (intro g' hg'; obtain rfl : g = g' := (by simpa [Value.ownBlock] using hg'); exact G1.out.elim (fun e => HU.out _ e) (fun e => Or.inr (by omega)))
end Go.Proofs.Ytomikbecbbjhoaa
