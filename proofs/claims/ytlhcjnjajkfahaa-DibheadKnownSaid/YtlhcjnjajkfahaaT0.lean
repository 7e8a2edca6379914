/- tgahead: the small functions. -/
import Derived.Test.YtlhcjnjajkfahaaS7
namespace Go.Proofs.Ytlhcjnjajkfahaa
open Go.RowKit
set_option linter.unusedVariables false
set_option linter.unusedSimpArgs false
theorem ret_b {a b : Bool} (h : a = b) : Ending.returned (.bool a) = Ending.returned (.bool b) := by rw [h]
theorem ret_i {a b : Int} (h : a = b) : Ending.returned (.int .i64 a) = Ending.returned (.int .i64 b) := by rw [h]
def packB (k : Int) : Bool := decide (9 ≤ k) && decide (k ≤ 11)
def plainI (k : Int) : Int := if packB k = true then k - 8 else k
def colB (n : Int) : Bool := n == 15 || (n == 16 || (n == 24 || n == 32))
def depB (k n : Int) : Bool := if plainI k = 2 then colB n else n == 8
def alpB (b n : Int) : Bool := n == 0 || ((b == 32 && n == 8) || (b == 16 && n == 1))
theorem packed_any (k : Int) (w : World) : Calls Try.prog 113 #[.int .i64 k] w fun e w' => e = .returned (.bool (packB k)) ∧ w' = w := by
  go_enter Try.func113, Try.ntmps113
  go_wp2
  all_goals (go_ret; exact ⟨ret_b (by unfold packB; simp <;> omega), rfl⟩)
theorem plain_any (k : Int) (w : World) (h0 : 0 ≤ k) (h1 : k ≤ 255) : Calls Try.prog 112 #[.int .i64 k] w fun e w' => e = .returned (.int .i64 (plainI k)) ∧ w' = w := by
  have HP := Lib.hid (fun w0 => packed_any k w0)
  obtain ⟨b, hb⟩ : ∃ b, packB k = b := ⟨_, rfl⟩
  rw [hb] at HP
  go_enter Try.func112, Try.ntmps112
  cases b
  all_goals go_wp2_with (go_at_call 113; (with_reducible refine (HP.out _).mono ?_); rintro e w1 ⟨rfl, rfl⟩)
  all_goals (go_ret; exact ⟨ret_i (by unfold plainI; rw [hb]; simp [wrap64]; try omega), rfl⟩)
theorem colors_any (n : Int) (w : World) : Calls Try.prog 115 #[.int .i64 n] w fun e w' => e = .returned (.bool (colB n)) ∧ w' = w := by
  go_enter Try.func115, Try.ntmps115
  by_cases h1 : n = 15
  · subst h1; go_wp2; go_ret; exact ⟨rfl, rfl⟩
  by_cases h2 : n = 16
  · subst h2; go_wp2; go_ret; exact ⟨rfl, rfl⟩
  by_cases h3 : n = 24
  · subst h3; go_wp2; go_ret; exact ⟨rfl, rfl⟩
  have e1 : (n == 15) = false := by simpa using h1
  have e2 : (n == 16) = false := by simpa using h2
  have e3 : (n == 24) = false := by simpa using h3
  go_wp2
  go_ret
  exact ⟨ret_b (by unfold colB; rw [e1, e2, e3]; simp), rfl⟩
theorem rcolor_any (n : Int) (w : World) : Calls Try.prog 94 #[.int .i64 n] w fun e w' => e = .returned (.bool (colB n)) ∧ w' = w := by
  go_enter Try.func94, Try.ntmps94
  by_cases h1 : n = 15
  · subst h1; go_wp2; go_ret; exact ⟨rfl, rfl⟩
  by_cases h2 : n = 16
  · subst h2; go_wp2; go_ret; exact ⟨rfl, rfl⟩
  by_cases h3 : n = 24
  · subst h3; go_wp2; go_ret; exact ⟨rfl, rfl⟩
  have e1 : (n == 15) = false := by simpa using h1
  have e2 : (n == 16) = false := by simpa using h2
  have e3 : (n == 24) = false := by simpa using h3
  go_wp2
  go_ret
  exact ⟨ret_b (by unfold colB; rw [e1, e2, e3]; simp), rfl⟩
theorem depth_any (k n : Int) (w : World) (h0 : 0 ≤ k) (h1 : k ≤ 255) : Calls Try.prog 116 #[.int .i64 k, .int .i64 n] w fun e w' => e = .returned (.bool (depB k n)) ∧ w' = w := by
  have HP := Lib.hid (fun w0 => plain_any k w0 h0 h1)
  have HC := Lib.hid (fun w0 => colors_any n w0)
  obtain ⟨p, hp⟩ : ∃ p, plainI k = p := ⟨_, rfl⟩
  rw [hp] at HP
  go_enter Try.func116, Try.ntmps116
  by_cases h2 : p = 2
  · subst h2
    go_wp2_with (first | (go_at_call 112; (with_reducible refine (HP.out _).mono ?_); rintro e w1 ⟨rfl, rfl⟩) | (go_at_call 115; (with_reducible refine (HC.out _).mono ?_); rintro e w1 ⟨rfl, rfl⟩))
    go_ret
    exact ⟨ret_b (by unfold depB; rw [if_pos hp]), rfl⟩
  · have e2 : (p == 2) = false := by simpa using h2
    go_wp2_with (first | (go_at_call 112; (with_reducible refine (HP.out _).mono ?_); rintro e w1 ⟨rfl, rfl⟩) | (go_at_call 115; (with_reducible refine (HC.out _).mono ?_); rintro e w1 ⟨rfl, rfl⟩))
    go_ret
    exact ⟨ret_b (by unfold depB; rw [hp, if_neg h2]), rfl⟩
theorem alpha_any (b n : Int) (w : World) : Calls Try.prog 117 #[.int .i64 b, .int .i64 n] w fun e w' => e = .returned (.bool (alpB b n)) ∧ w' = w := by
  go_enter Try.func117, Try.ntmps117
  by_cases h1 : b = 32
  · subst h1
    by_cases h2 : n = 0
    · subst h2; go_wp2; go_ret; exact ⟨rfl, rfl⟩
    · have e2 : (n == 0) = false := by simpa using h2
      go_wp2; go_ret; exact ⟨ret_b (by unfold alpB; simp [e2]), rfl⟩
  have e1 : (b == 32) = false := by simpa using h1
  by_cases h3 : b = 16
  · subst h3
    by_cases h2 : n = 0
    · subst h2; go_wp2; go_ret; exact ⟨rfl, rfl⟩
    · have e2 : (n == 0) = false := by simpa using h2
      go_wp2; go_ret; exact ⟨ret_b (by unfold alpB; simp [e2]), rfl⟩
  have e3 : (b == 16) = false := by simpa using h3
  go_wp2; go_ret; exact ⟨ret_b (by unfold alpB; simp [e1, e3]), rfl⟩
theorem or_word (a b : Int) (h0 : 0 ≤ a) (h1 : a < 256) (h2 : 0 ≤ b) (h3 : b < 256) : bits .or .i64 (wrap64 a) (wrap64 (wrap64 b * 256)) = a + b * 256 := by
  rw [IntWalk.wrap64_in a (by omega), IntWalk.wrap64_in b (by omega), IntWalk.wrap64_in (b * 256) (by omega)]
  have := or_low 8 a b h0 (by omega) h2 (by omega)
  simpa using this
def wordN (s : ByteArray) (a : Nat) : Int := byN s a + byN s (a + 1) * 256
theorem wordN_bd (s : ByteArray) (a : Nat) : 0 ≤ wordN s a ∧ wordN s a < 65536 := by
  unfold wordN; have := byN_bd s a; have := byN_bd s (a + 1); omega
theorem word_any (s : ByteArray) (a : Nat) (w : World) (h : a + 1 < s.size) (hs : s.size ≤ 1000) : Calls Try.prog 114 #[.string s, .int .i64 a] w fun e w' => e = .returned (.int .i64 (wordN s a)) ∧ ∃ k, w' = w.drewN k := by
  have b1 := byN_bd s a
  have b2 := byN_bd s (a + 1)
  have H1 := Lib.hid (byN_get s a (by omega))
  have H2 := Lib.hid (byN_get s (a + 1) h)
  have h0 : a < s.size := by omega
  have i3 : ((a : Int) + 1).toNat = a + 1 := by omega
  have i4 : (0 : Int) ≤ (a : Int) + 1 := by omega
  have i5 : (a : Int) + 1 < s.size := by omega
  have eW : IntKind.i64.wrap ((a : Int) + 1) = (a : Int) + 1 := i64_wraps _ (by omega) (by omega)
  go_enter Try.func114, Try.ntmps114
  go_wp2
  go_quiet (fail)
  go_wp2
  go_ret
  exact ⟨ret_i (by rw [H1.out, H2.out, or_word _ _ b1.1 b1.2 b2.1 b2.2]; rfl), _, rfl⟩
theorem word_at (s : ByteArray) (a : Nat) (i V : Int) (w : World) (hi : i = a) (hV : wordN s a = V) (h : a + 1 < s.size) (hs : s.size ≤ 1000) : Calls Try.prog 114 #[.string s, .int .i64 i] w fun e w' => e = .returned (.int .i64 V) ∧ ∃ k, w' = w.drewN k := by
  subst hi; subst hV; exact word_any s a w h hs
end Go.Proofs.Ytlhcjnjajkfahaa
