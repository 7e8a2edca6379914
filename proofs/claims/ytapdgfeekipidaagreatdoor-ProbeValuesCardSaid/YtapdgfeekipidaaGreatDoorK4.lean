/- probe.Lines of no bytes, walked. -/
import Derived.Test.YtapdgfeekipidaaGreatDoorK3
import Derived.Test.YtapdgfeekipidaaGreatDoorK1
import Derived.Test.YtapdgfeekipidaaGreatDoorK0
namespace Go.Proofs.YtapdgfeekipidaaGreatDoor
open Go.RowKit
set_option linter.unusedVariables false
set_option linter.unusedSimpArgs false
theorem owns_cell9 {w : World} {base e n : Nat} {v : Value} {xs : List Value} (h : w.ownsRow base e 1 v n xs) (hn : 0 < n) : ∃ g cap, v = .slice (some ⟨g, 0, none⟩) n cap ∧ base ≤ g ∧ ∀ j u, xs[j]? = some u → w.cell? ⟨g, j, none⟩ = some u := by
  have h' := h
  obtain ⟨h1, ⟨rfl, h2⟩ | ⟨g, cap, cur, rfl, hb, rest⟩⟩ := h
  · omega
  · exact ⟨g, cap, rfl, hb, fun j u hu => owns_cell h' j u hu⟩
theorem owns_objR {w : World} {B base n size : Nat} {L : List Value} {T : TypeId} (h : Obj1 w B L.toArray T) (hb : base ≤ B) (hc : n ≤ maxLen) (hl : L.length = n * size) : w.ownsRow base T size (.slice (some ⟨B, 0, none⟩) n n) n L :=
  ⟨by omega, Or.inr ⟨B, n, L.toArray, rfl, hb, h, Nat.le_refl _, hc, by simpa using hl, by rw [show L.toArray.toList = L by simp, ← hl]; exact List.take_length⟩⟩
def Lines0 (w : World) (e : Ending) (w' : World) : Prop := ∃ (g cap : Nat), e = .returned (.slice (some ⟨g, 0, none⟩) 3 cap) ∧ w'.cell? ⟨g, 0, none⟩ = some (.string ⟨#[98, 121, 116, 101, 115, 32, 48]⟩) ∧ w'.cell? ⟨g, 1, none⟩ = some (.string ⟨#[102, 111, 114, 109, 97, 116, 32, 117, 110, 107, 110, 111, 119, 110]⟩) ∧ w'.cell? ⟨g, 2, none⟩ = some (.string ⟨#[104, 101, 97, 100, 32, 117, 110, 115, 117, 112, 112, 111, 114, 116, 101, 100, 32, 117, 110, 107, 110, 111, 119, 110, 32, 48]⟩) ∧ Below w.heap.size w w'
set_option maxRecDepth 100000 in
set_option maxHeartbeats 8000000 in
theorem lines0 (w : World) : Calls Tryz.prog 6 #[.string ⟨#[]⟩, .int .i64 100] w (Lines0 w) := by
  have HB := Hi (fun w0 => begin0 w0)
  have HO := Hi (fun w0 => of_empty w0)
  have HW := Hi (fun w0 => wrong3 w0)
  have HL := Hi (fun B w0 hc => (show Calls Tryz.prog 10 #[.string ⟨#[104, 101, 97, 100]⟩, .slice (some ⟨B, 0, none⟩) 1 1] w0 (fun e w' => e = .returned (.string ⟨#[104, 101, 97, 100, 32, 117, 110, 115, 117, 112, 112, 111, 114, 116, 101, 100, 32, 117, 110, 107, 110, 111, 119, 110, 32, 48]⟩) ∧ w' = w0) from (line_str ⟨#[104, 101, 97, 100]⟩ ⟨#[117, 110, 115, 117, 112, 112, 111, 114, 116, 101, 100, 32, 117, 110, 107, 110, 111, 119, 110, 32, 48]⟩ B w0 (by decide) (by decide) hc).mono fun e w' hh => ⟨hh.1.trans (by kernel_rfl), hh.2⟩))
  go_enter Tryz.func6, Tryz.ntmps6
  go_upto_region 2 with ((go_at_call 8; (with_reducible refine (HB.out _).mono ?_); rintro e w1 ⟨B, rfl, hB, hlt, hb⟩); have OB := Hi hB; have BL := Hi hb; clear hB hb)
  go_upto_region 3 with (first
    | ((go_at_call 9; (with_reducible refine (HO.out _).mono ?_); rintro e w2 ⟨rfl, hb⟩); have OB := Hi (OB.out.below hb OB.out.lt); have BL := Hi (bthen hb BL.out BL.out.size); have hlB := OB.out.lt; clear hb
       have O6 := Hi ((obj1_new w2 #[.int .i64 0, .int .i64 0, .int .i64 0, .int .i64 0, .int .i64 0, .int .i64 0] 31).alloc (.cells #[.int .i64 0, .int .i64 0, .int .i64 0] 33))
       have O7 := Hi (obj1_new (w2.alloc (.cells #[.int .i64 0, .int .i64 0, .int .i64 0, .int .i64 0, .int .i64 0, .int .i64 0] 31)) #[.int .i64 0, .int .i64 0, .int .i64 0] 33)
       have OB := Hi ((OB.out.alloc (.cells #[.int .i64 0, .int .i64 0, .int .i64 0, .int .i64 0, .int .i64 0, .int .i64 0] 31)).alloc (.cells #[.int .i64 0, .int .i64 0, .int .i64 0] 33))
       have BL := Hi ((BL.out.alloc BL.out.size (.cells #[.int .i64 0, .int .i64 0, .int .i64 0, .int .i64 0, .int .i64 0, .int .i64 0] 31)).alloc (Nat.le_trans BL.out.size (by simp)) (.cells #[.int .i64 0, .int .i64 0, .int .i64 0] 33))
       obtain ⟨d, hd⟩ : ∃ d, w2.heap.size = d := ⟨_, rfl⟩
       have lB : B < d := (by rw [← hd]; exact hlB)
       rw [show (w2.alloc (.cells #[.int .i64 0, .int .i64 0, .int .i64 0, .int .i64 0, .int .i64 0, .int .i64 0] 31)).heap.size = d + 1 by rw [← hd]; simp] at O7
       rw [hd] at O6)
    | (refine store_o rfl 31 6 _ _ rfl d [.int .i64 0, .int .i64 0, .int .i64 0, .int .i64 0, .int .i64 0, .int .i64 0] rfl rfl (by kernel_rfl) (by kernel_rfl) (by kernel_rfl) O6.out (by first | rfl | simp) ?_; intro ws hst hO; have O6 := Hi hO; have O7 := Hi (hst.oth O7.out (by omega)); have OB := Hi (hst.oth OB.out (by omega)); have BL := Hi (hst.below BL.out (by omega)); clear hst hO)
    | (refine store_o rfl 33 3 _ _ rfl (d + 1) [.int .i64 3, .int .i64 0, .int .i64 0] rfl rfl (by kernel_rfl) (by kernel_rfl) (by kernel_rfl) O7.out (by first | rfl | simp) ?_; intro ws hst hO; have O7 := Hi hO; have O6 := Hi (hst.oth O6.out (by omega)); have OB := Hi (hst.oth OB.out (by omega)); have BL := Hi (hst.below BL.out (by omega)); clear hst hO))
  have c7 := (O7.out.cell 0).trans (show _ = some (.int .i64 3) from rfl)
  go_wp2_with (first
    | (refine load_u (by kernel_rfl) 33 3 _ rfl (d + 1) [.int .i64 3, .int .i64 0, .int .i64 0] rfl rfl O7.out Tryz.underlying33 rfl (by kernel_rfl) ?_; intro _)
    | ((go_at_call 11; (with_reducible refine (HW.out _).mono ?_); rintro e w3 ⟨rfl, hb⟩); have OB := Hi ((OB.out.below hb OB.out.lt).alloc (.cells #[.iface 9 (.string ⟨#[117, 110, 115, 117, 112, 112, 111, 114, 116, 101, 100, 32, 117, 110, 107, 110, 111, 119, 110, 32, 48]⟩)] 20)); have BL := Hi ((bthen hb BL.out BL.out.size).alloc (bthen hb BL.out BL.out.size).size (.cells #[.iface 9 (.string ⟨#[117, 110, 115, 117, 112, 112, 111, 114, 116, 101, 100, 32, 117, 110, 107, 110, 111, 119, 110, 32, 48]⟩)] 20)); have ON := Hi (obj1_new w3 #[.iface 9 (.string ⟨#[117, 110, 115, 117, 112, 112, 111, 114, 116, 101, 100, 32, 117, 110, 107, 110, 111, 119, 110, 32, 48]⟩)] 20); clear hb)
    | ((go_at_call 10; (with_reducible refine (HL.out _ _ ((ON.out.cell 0).trans rfl)).mono ?_); rintro e w4 ⟨rfl, rfl⟩); clear ON; generalize World.alloc w3 _ = w5 at OB BL ⊢)
    | (at_builtin; refine app1k rfl (.tmp 19) (.tmp 25) 22 rfl w.heap.size 9 (.string ⟨#[]⟩) 16 Tryz.underlying22 (by kernel_rfl) rfl _ 2 [.string ⟨#[98, 121, 116, 101, 115, 32, 48]⟩, .string ⟨#[102, 111, 114, 109, 97, 116, 32, 117, 110, 107, 110, 111, 119, 110]⟩] rfl (owns_objR OB.out hlt (by unfold maxLen; decide) rfl) (.string ⟨#[104, 101, 97, 100, 32, 117, 110, 115, 117, 112, 112, 111, 114, 116, 101, 100, 32, 117, 110, 107, 110, 111, 119, 110, 32, 48]⟩) rfl 9 rfl (by decide) (by unfold maxLen; decide) BL.out.size ?_; intro v' w6 hown hC hg hz; have OW := Hi hown; have BL := Hi (BL.out.trans (hC.below BL.out.size (fun k hk => by have h2 : (Value.slice (some ⟨B, 0, none⟩) 2 2).ownBlock = some k := hk; simp [Value.ownBlock] at h2; omega))); clear hown hC hg hz))
  obtain ⟨g, cap, rfl, hg, hcl⟩ := owns_cell9 OW.out (by decide)
  go_ret
  exact ⟨g, cap, rfl, hcl 0 _ rfl, hcl 1 _ rfl, hcl 2 _ rfl, BL.out⟩
set_option maxRecDepth 100000 in
set_option maxHeartbeats 8000000 in
theorem awake37 (w : World) : Calls Tryz.prog 4 #[] w fun e w' => e = .returned (.bool true) ∧ Below w.heap.size w w' := by
  have HL := Hi (fun w0 => lines0 w0)
  go_enter Tryz.func4, Tryz.ntmps4
  go_upto_region 2 with ((go_at_call 6; (with_reducible refine (HL.out _).mono ?_); rintro e w1 ⟨g, cap, rfl, c0, c1, c2, hb⟩))
  go_wp2
  go_ret
  exact ⟨rfl, hb⟩
theorem valL_off (word : ByteArray) : ∀ L : List ByteArray, (valL word L).2 = false → (valL word L).1 = ByteArray.empty
  | [], _ => rfl
  | l :: t, h => by
    rw [valL] at h ⊢
    by_cases h1 : l = word
    · rw [if_pos h1] at h; cases h
    rw [if_neg h1] at h ⊢
    by_cases h2 : prefB l (wordB word) = true
    · rw [if_pos h2] at h; cases h
    rw [if_neg h2] at h ⊢
    exact valL_off word t h
theorem valL_one (word l : ByteArray) : valL word [l] = if l = word then (ByteArray.empty, true) else if prefB l (wordB word) = true then (l.extract (word.size + 1) l.size, true) else (ByteArray.empty, false) := rfl
theorem valL_all (word : ByteArray) (L : List ByteArray) (i : Nat) (h : L.length ≤ i) : valL word (L.take i) = valL word L := by rw [List.take_of_length_le h]
set_option maxRecDepth 100000 in
set_option maxHeartbeats 4000000 in
theorem values_some (L : List ByteArray) (B o n cap : Nat) (word : ByteArray) (w : World) (hn : n = L.length) (h40 : n ≤ 40) (hwz : word.size ≤ 40) (hR : StrAt w B o L)
    (hA : ∀ w0, Calls Tryz.prog 4 #[] w0 fun e w' => e = .returned (.bool true) ∧ Below w0.heap.size w0 w') :
    Calls Tryz.prog 3 #[.slice (some ⟨B, o, none⟩) n cap, .string word] w fun e w' => e = .returned (.bool true) ∧ Below w.heap.size w w' := by
  have HR := Hi hR
  have HN := Hi hn
  have HA := Hi hA
  have HV := Hi (value_some L B o n cap word w hn (by omega) (by omega) hR)
  clear hR hn hA
  go_enter Tryz.func3, Tryz.ntmps3
  go_wp2_with fail
  go_loopw [5, 6, 8, 22] (fun q5 q6 q8 c wr => ∃ i : Nat, i ≤ n ∧ c = .int .i64 i ∧ (∃ vs vb, valL word (L.take i) = (vs, vb) ∧ q5 = .string vs ∧ q6 = .bool vb) ∧ wr = w) (fun _ _ _ c _ => n - (intOf c).toNat)
  case atStart => exact ⟨0, by omega, rfl, ⟨ByteArray.empty, false, rfl, rfl, rfl⟩, rfl⟩
  case round =>
    obtain ⟨i, hi, rfl, ⟨vs, vb, hv, rfl, rfl⟩, rfl⟩ := hrel
    by_cases hlt : i < n
    rotate_left
    · have hge : n ≤ i := by omega
      have HV := Hi (HV.out.mono (R' := fun e w' => e = .returned (.tuple #[.string vs, .bool vb]) ∧ w' = wr) fun e w' hh => by rw [← valL_all word L i (by rw [← HN.out]; exact hge), hv] at hh; exact hh)
      clear hv
      go_wp2_with (first
        | ((go_at_call 5; (with_reducible refine (HV.out).mono ?_); rintro e w1 ⟨rfl, rfl⟩))
        | ((go_at_call 4; (with_reducible refine (HA.out _).mono ?_); rintro e w2 ⟨rfl, hb⟩)))
      go_ret
      exact ⟨rfl, hb⟩
    have hlt2 : i < L.length := by rw [← HN.out]; exact hlt
    obtain ⟨l, hl⟩ : ∃ l, L.getD i ByteArray.empty = l := ⟨_, rfl⟩
    have c0 : wr.cell? ⟨B, o + i, none⟩ = some (.string l) := by rw [← hl]; exact HR.out i hlt2
    have hk := valL_take word L i hlt2
    rw [hl, hv] at hk
    have HK := Hi hk
    clear hk hl hlt2
    by_cases hbig : l.size > 200
    · go_wp2_with ((go_at_call 4; (with_reducible refine (HA.out _).mono ?_); rintro e w2 ⟨rfl, hb⟩))
      go_ret
      exact ⟨rfl, hb⟩
    cases vb with
    | true =>
      have HF := Hi (show valL word (L.take (i + 1)) = (vs, true) by have := HK.out; rw [if_pos rfl] at this; exact this)
      clear hv
      go_wp2_with fail
      go_roundw
      case rel => exact ⟨i + 1, by omega, by go_num, ⟨vs, true, HF.out, rfl, rfl⟩, trivial⟩
      case measure => simp [intOf]; omega
    | false =>
      have he : vs = ByteArray.empty := by have := valL_off word (L.take i) (by rw [hv]); rw [hv] at this; exact this
      subst he
      have HF := Hi (show valL word (L.take (i + 1)) = valL word [l] by have := HK.out; rw [if_neg (fun h => by cases h)] at this; exact this)
      rw [valL_one] at HF
      clear hv
      by_cases hw : l = word
      · have sb : (l.toList == word.toList) = true := by rw [str_beq, decide_eq_true_iff]; exact hw
        rw [if_pos hw] at HF
        clear hw
        go_wp2_with fail
        go_roundw
        case rel => exact ⟨i + 1, by omega, by go_num, ⟨_, true, HF.out, rfl, rfl⟩, trivial⟩
        case measure => simp [intOf]; omega
      have sb : (l.toList == word.toList) = false := by rw [str_beq, decide_eq_false_iff_not]; exact hw
      rw [if_neg hw, pre_iff] at HF
      clear hw
      by_cases h1 : word.size < l.size
      rotate_left
      · rw [decide_eq_false h1, Bool.false_and, if_neg (by decide)] at HF
        go_wp2_with fail
        go_roundw
        case rel => exact ⟨i + 1, by omega, by go_num, ⟨_, false, HF.out, rfl, rfl⟩, trivial⟩
        case measure => simp [intOf]; omega
      rw [decide_eq_true h1, Bool.true_and] at HF
      obtain ⟨d2, hd2⟩ : ∃ d2, ((l.extract 0 word.size).toList == word.toList) = d2 := ⟨_, rfl⟩
      rw [hd2] at HF
      cases d2 with
      | false =>
        rw [Bool.false_and, if_neg (by decide)] at HF
        go_wp2_with fail
        go_roundw
        case rel => exact ⟨i + 1, by omega, by go_num, ⟨_, false, HF.out, rfl, rfl⟩, trivial⟩
        case measure => simp [intOf]; omega
      | true =>
        obtain ⟨x0, hx0⟩ : ∃ x, byN l word.size = x := ⟨_, rfl⟩
        have g0 : ((l[word.size]).toNat : Int) = x0 := by rw [← hx0]; exact byN_get l word.size h1
        rw [Bool.true_and, hx0] at HF
        clear hx0
        by_cases h3 : x0 = 32
        · have t3 : (x0 == 32) = true := by rw [beq_iff_eq]; exact h3
          rw [t3, if_pos rfl] at HF
          clear h3
          go_wp2_with fail
          go_roundw
          case rel => exact ⟨i + 1, by omega, by go_num, ⟨_, true, HF.out, rfl, rfl⟩, trivial⟩
          case measure => simp [intOf]; omega
        · have t3 : (x0 == 32) = false := by rw [beq_eq_false_iff_ne]; exact h3
          rw [t3, if_neg (by decide)] at HF
          clear h3
          go_wp2_with fail
          go_roundw
          case rel => exact ⟨i + 1, by omega, by go_num, ⟨_, false, HF.out, rfl, rfl⟩, trivial⟩
          case measure => simp [intOf]; omega
set_option maxRecDepth 100000 in
set_option maxHeartbeats 4000000 in
theorem values_zero (a : Option Addr) (cap : Nat) (word : ByteArray) (w : World) (hwz : word.size ≤ 40)
    (hA : ∀ w0, Calls Tryz.prog 4 #[] w0 fun e w' => e = .returned (.bool true) ∧ Below w0.heap.size w0 w') :
    Calls Tryz.prog 3 #[.slice a 0 cap, .string word] w fun e w' => e = .returned (.bool true) ∧ Below w.heap.size w w' := by
  have HA := Hi hA
  have HV := Hi (value_zero a cap word w)
  clear hA
  go_enter Tryz.func3, Tryz.ntmps3
  go_wp2_with fail
  go_loopw [5, 6, 8, 22] (fun q5 q6 q8 c wr => c = .int .i64 0 ∧ q5 = .string ByteArray.empty ∧ q6 = .bool false ∧ wr = w) (fun _ _ _ c _ => 0)
  case atStart => exact ⟨rfl, rfl, rfl, rfl⟩
  case round =>
    obtain ⟨rfl, rfl, rfl, rfl⟩ := hrel
    go_wp2_with (first
      | ((go_at_call 5; (with_reducible refine (HV.out).mono ?_); rintro e w1 ⟨rfl, rfl⟩))
      | ((go_at_call 4; (with_reducible refine (HA.out _).mono ?_); rintro e w2 ⟨rfl, hb⟩)))
    go_ret
    exact ⟨rfl, hb⟩
theorem values_long (a : Option Addr) (n cap : Nat) (word : ByteArray) (w : World) (h : 40 < n ∨ 40 < word.size)
    (hA : ∀ w0, Calls Tryz.prog 4 #[] w0 fun e w' => e = .returned (.bool true) ∧ Below w0.heap.size w0 w') :
    Calls Tryz.prog 3 #[.slice a n cap, .string word] w fun e w' => e = .returned (.bool true) ∧ Below w.heap.size w w' := by
  have HA := Hi hA
  clear hA
  by_cases h1 : 40 < n
  · clear h
    go_enter Tryz.func3, Tryz.ntmps3
    go_wp2_with ((go_at_call 4; (with_reducible refine (HA.out _).mono ?_); rintro e w2 ⟨rfl, hb⟩))
    go_ret
    exact ⟨rfl, hb⟩
  · have h2 : 40 < word.size := by omega
    clear h
    go_enter Tryz.func3, Tryz.ntmps3
    go_wp2_with ((go_at_call 4; (with_reducible refine (HA.out _).mono ?_); rintro e w2 ⟨rfl, hb⟩))
    go_ret
    exact ⟨rfl, hb⟩
theorem values_any (a : Option Addr) (n cap : Nat) (ss : List ByteArray) (word : ByteArray) (w : World) (hn : n = ss.length) (hcl : n ≠ 0 → ∃ x : Addr, a = some x ∧ ∀ i, i < n → w.cell? (x.add i) = some (.string (ss.getD i ByteArray.empty)))
    (hA : ∀ w0, Calls Tryz.prog 4 #[] w0 fun e w' => e = .returned (.bool true) ∧ Below w0.heap.size w0 w') :
    Calls Tryz.prog 3 #[.slice a n cap, .string word] w fun e w' => e = .returned (.bool true) ∧ Below w.heap.size w w' := by
  by_cases h : 40 < n ∨ 40 < word.size
  · exact values_long a n cap word w h hA
  by_cases h0 : n = 0
  · subst h0; exact values_zero a cap word w (by omega) hA
  obtain ⟨⟨B, o, sp⟩, ha, hc⟩ := hcl h0
  clear hcl
  subst ha
  have hx := hc 0 (by omega)
  obtain rfl : sp = none := by
    cases sp with
    | none => rfl
    | some q =>
      have h9 := hx
      unfold World.cell? Addr.add at h9
      split at h9 <;> simp at h9
  refine values_some ss B o n cap word w hn (by omega) (by omega) (fun i hi => ?_) hA
  have h8 := hc i (by omega)
  rwa [Addr.add_mid] at h8
end Go.Proofs.YtapdgfeekipidaaGreatDoor
namespace Go.Proofs.YtapdgfeekipidaaGreatDoor
open Go.RowKit
theorem probe_walk (a : Option Addr) (n cap : Nat) (ss : List ByteArray) (word : ByteArray) {w : World} (hn : n = ss.length) (hc : n ≠ 0 → ∃ x : Addr, a = some x ∧ ∀ i, i < n → w.cell? (x.add i) = some (.string (ss.getD i ByteArray.empty))) (_ : word.size ≤ maxLen) (_ : World) :
    Calls Tryz.prog 3 #[.slice a n cap, .string word] w fun e w' => e = .returned (.bool true) ∧ Below w.heap.size w w' := values_any a n cap ss word w hn hc awake37
end Go.Proofs.YtapdgfeekipidaaGreatDoor
