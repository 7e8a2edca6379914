/- num.is, Mul, Ceil; math/bits.Mul64: walked. -/
import Derived.Test.YtlhcjnjajkfahaaO6
import Derived.Shelf.Bits.Mul64
namespace Go.Proofs.Ytlhcjnjajkfahaa
open Go.RowKit
set_option linter.unusedVariables false
set_option linter.unusedSimpArgs false
def isN (v : Int) : Bool := decide (0 ≤ v) && decide (v ≤ 4611686018427387904)
set_option maxRecDepth 100000 in
set_option maxHeartbeats 4000000 in
theorem is_any (L : List Int) (n B cap : Nat) (w : World) (hn : n = L.length) (h9 : n ≤ 100) (hR : w.rangeAt B 0 (L.map (.int .i64))) : Calls Try.prog 106 #[.slice (some ⟨B, 0, none⟩) n cap] w fun e w' => e = .returned (.bool (L.all isN)) ∧ w' = w := by
  obtain ⟨R, hRR⟩ : ∃ R, L.all isN = R := ⟨_, rfl⟩
  have HRR := Lib.hid hRR
  have HR := Lib.hid hR
  have HN := Lib.hid hn
  rw [hRR]
  clear hRR hR hn
  go_enter Try.func106, Try.ntmps106
  go_wp2
  go_loop [4, 7] (fun _ c => ∃ i : Nat, i ≤ n ∧ c = .int .i64 i ∧ (L.drop i).all isN = R) (fun _ c => n - (intOf c).toNat)
  case atStart => exact ⟨0, by omega, rfl, HRR.out⟩
  case round =>
    obtain ⟨i, hi, rfl, hf⟩ := hrel
    by_cases hlt : i < n
    rotate_left
    · have hge : n ≤ i := by omega
      have HF := Lib.hid (show R = true by rw [← hf, List.drop_of_length_le (by rw [← HN.out]; exact hge)]; rfl)
      clear hf
      go_wp2
      go_ret
      exact ⟨by rw [HF.out]; rfl, rfl⟩
    · have hlt2 : i < L.length := by rw [← HN.out]; exact hlt
      obtain ⟨v, hv⟩ : ∃ v, L[i] = v := ⟨_, rfl⟩
      have hd : L.drop i = v :: L.drop (i + 1) := by rw [List.drop_eq_getElem_cons hlt2, hv]
      have c0 : w.cell? ⟨B, i, none⟩ = some (.int .i64 v) := by have := HR.out i (.int .i64 v) (by rw [List.getElem?_map, List.getElem?_eq_getElem hlt2, hv]; rfl); rwa [Nat.zero_add] at this
      rw [hd, List.all_cons] at hf
      have hge : ¬ n ≤ i := by omega
      have HF := Lib.hid hf
      clear hd hv hf
      by_cases h1 : v < 0
      · have D1 : decide (v < 0) = true := decide_eq_true h1
        have E := Lib.hid (show R = false by rw [← HF.out, show isN v = false by unfold isN; rw [decide_eq_false (by omega)]; rfl]; rfl)
        clear h1
        go_wp2_with ((with_reducible refine skip_g rfl ?_ ?_); rfl; intro _)
        go_ret
        exact ⟨by rw [E.out]; rfl, rfl⟩
      · have D1 : decide (v < 0) = false := decide_eq_false h1
        by_cases h2 : v > 4611686018427387904
        · have D2 : decide (v > 4611686018427387904) = true := decide_eq_true h2
          have E := Lib.hid (show R = false by rw [← HF.out, show isN v = false by unfold isN; rw [decide_eq_false (show ¬ v ≤ 4611686018427387904 by omega)]; simp]; rfl)
          clear h1 h2
          go_wp2_with ((with_reducible refine skip_g rfl ?_ ?_); rfl; intro _)
          go_ret
          exact ⟨by rw [E.out]; rfl, rfl⟩
        · have D2 : decide (v > 4611686018427387904) = false := decide_eq_false h2
          have E := Lib.hid (show (L.drop (i + 1)).all isN = R by rw [← HF.out, show isN v = true by unfold isN; rw [decide_eq_true (by omega), decide_eq_true (by omega)]; rfl]; rfl)
          clear h1 h2
          go_wp2_with ((with_reducible refine skip_g rfl ?_ ?_); rfl; intro _)
          go_round
          case rel => exact ⟨i + 1, by omega, by go_num, E.out⟩
          case measure => simp [intOf]; omega
set_option maxHeartbeats 1000000 in
theorem mul64_any (x y : Nat) (hx : x < 18446744073709551616) (hy : y < 18446744073709551616) (w : World) :
    Calls Try.prog 122 #[.int .u64 x, .int .u64 y] w fun e w' => e = .returned (.tuple #[.int .u64 ((x * y / 18446744073709551616 : Nat) : Int), .int .u64 ((x * y % 18446744073709551616 : Nat) : Int)]) ∧ w' = w := by
  obtain ⟨bd, bt, bw, hhi⟩ := Lib.mul64_hi x y hx hy
  have ba := Lib.half_mul_le (a := x / 4294967296) (b := y / 4294967296) (by omega) (by omega)
  have bb := Lib.half_mul_le (a := x / 4294967296) (b := y % 4294967296) (by omega) (by omega)
  have bc := Lib.half_mul_le (a := x % 4294967296) (b := y / 4294967296) (by omega) (by omega)
  have ba' : x / 4294967296 * (y / 4294967296) < 18446744073709551616 := by omega
  have bb' : x / 4294967296 * (y % 4294967296) < 18446744073709551616 := by omega
  have bc' : x % 4294967296 * (y / 4294967296) < 18446744073709551616 := by omega
  have bh1 : x / 4294967296 * (y / 4294967296) + (x / 4294967296 * (y % 4294967296) + x % 4294967296 * (y % 4294967296) / 4294967296) / 4294967296 < 18446744073709551616 := by omega
  have bh : x / 4294967296 * (y / 4294967296) + (x / 4294967296 * (y % 4294967296) + x % 4294967296 * (y % 4294967296) / 4294967296) / 4294967296 + ((x / 4294967296 * (y % 4294967296) + x % 4294967296 * (y % 4294967296) / 4294967296) % 4294967296 + x % 4294967296 * (y / 4294967296)) / 4294967296 < 18446744073709551616 := by omega
  go_enter Try.func122, Try.ntmps122
  go_wp2
  simp only [Mul64.maskN x hx, Mul64.maskN y hy, Mul64.divN, Mul64.mulN, Mul64.addN, Mul64.wrapN _ bd, Mul64.wrapN _ bb', Mul64.wrapN _ bt, Mul64.maskN _ bt, Mul64.wrapN _ bc', Mul64.wrapN _ bw, Mul64.wrapN _ ba', Mul64.wrapN _ bh1, Mul64.wrapN _ bh, Mul64.wrapM (x * y)]
  rw [hhi]
  go_ret2
  exact ⟨rfl, rfl⟩
end Go.Proofs.Ytlhcjnjajkfahaa
