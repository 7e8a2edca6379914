/- The reference of layer 21: Pack, walked. -/
import Derived.Test.YtobpocdpnkicnaaD8
import Derived.Test.YtobpocdpnkicnaaM3
import Derived.Deep.RegionHeld3
import Derived.Deep.AppendLies
import Derived.Deep.DrawnRows
namespace Go.Proofs.Ytobpocdpnkicnaa
open Go.RowKit
set_option linter.unusedVariables false
attribute [local go_sem ↓] Go.wp_at_zero Go.wp_at_succ
theorem step_app1 {P : Program} {ops : Array Oper} {o : Oper} {a : Act} {K : Act → World → Prop} {Q : Exit → Act → World → Prop} {E : Prop} (hgd : o.guard = none) (s x : Operand) (t : TypeId)
    (ho : o.op = .call { callee := .builtin .append, args := #[s, x], argTypes := #[t, t] })
    (base : Nat) (e : TypeId) (z : Value) (bytes : Nat) (ht : P.underlying t = some (.slice e)) (hi : (P.info? e).map (fun i => (i.zero, i.size, i.bytes)) = some (some z, 1, bytes)) (hz1 : z.cells.size = 1)
    (v : Value) (n : Nat) (xs : List Value) (hs : a.eval s = v) {w : World} (hown : w.ownsRow base e 1 v n xs) (X : Value) (hX : X.oneCell' = true) (ad : Addr) (c : Nat)
    (hx : a.eval x = .slice (some ad) 1 c) (hc : w.cell? ad = some X) (hn : (n + 1) * bytes ≤ 140737488355328) (hn2 : n + 1 ≤ maxLen) (hbase : base ≤ w.heap.size)
    (h : ∀ v' w', w'.ownsRow base e 1 v' (n + 1) (xs ++ [X]) → (∀ W, Below base W w → Below base W w') → base ≤ w'.heap.size → K (a.put o.dst v') w') :
    if Region.wanted o (yielded ops a.tmps) = true then Oper.wp P o a w K Q else E := by
  obtain ⟨i, i1, i2, i3, i4⟩ := info_parts hi
  refine step_append_lies w hgd s x t ho base e i z 1 bytes ht i1 i2 i3 i4 hz1 (by decide) v n xs hs hown ad 1 c [X] hx rfl ?_ ?_ (by decide) hn2 hn hbase _ rfl ?_
  · intro j u hj
    match j, hj with
    | 0, hj => simp at hj; subst hj; simpa [Addr.add] using hc
  · intro u hu; simp at hu; subst hu; exact hX
  · intro g cap w' hown' hgrow _ _
    refine h _ w' hown' (fun W hB => ?_) (Nat.le_trans hbase hgrow.size)
    refine hB.grown hgrow hbase ?_
    intro k hk
    obtain ⟨_, h2⟩ := hown
    rcases h2 with ⟨rfl, _⟩ | ⟨g, cap, cur, rfl, hg, _⟩
    · simp [Value.ownBlock] at hk
    · simp [Value.ownBlock] at hk; omega
theorem wideF_len (v : Int) (m : Nat) : (wideF v m).length = 8 * m := by
  induction m with
  | zero => rfl
  | succ m ih => rw [wideF_succ, List.length_append, ih, msbF_len]; omega
theorem rowBits_len (v : Int) (d : Nat) : (rowBits v d).length = if 8 ≤ d then 8 * (d / 8) else d := by
  unfold rowBits
  split
  · exact wideF_len _ _
  · exact msbF_len _ _ _
def rowLen (d : Nat) : Nat := if 8 ≤ d then 8 * (d / 8) else d
theorem bitsAcc_len (l : List Int) (d k : Nat) : (bitsAcc l d k).length = k * rowLen d := by
  induction k with
  | zero => simp [bitsAcc]
  | succ k ih => rw [bitsAcc_succ, List.length_append, ih, rowBits_len, Nat.add_mul, Nat.one_mul]; rfl
theorem msbF_bits (v : Int) (d j : Nat) : ∀ x ∈ msbF v d j, 0 ≤ x ∧ x ≤ 1 := by
  induction j with
  | zero => intro x hx; simp [msbF] at hx
  | succ j ih =>
    intro x hx
    rw [msbF_succ, List.mem_append] at hx
    rcases hx with hx | hx
    · exact ih x hx
    · simp only [List.mem_singleton] at hx; omega
theorem wideF_bits (v : Int) (m : Nat) : ∀ x ∈ wideF v m, 0 ≤ x ∧ x ≤ 1 := by
  induction m with
  | zero => intro x hx; simp [wideF] at hx
  | succ j ih =>
    intro x hx
    rw [wideF_succ, List.mem_append] at hx
    rcases hx with hx | hx
    · exact ih x hx
    · exact msbF_bits _ _ _ x hx
theorem bitsAcc_bits (l : List Int) (d k : Nat) : ∀ x ∈ bitsAcc l d k, 0 ≤ x ∧ x ≤ 1 := by
  induction k with
  | zero => intro x hx; simp [bitsAcc] at hx
  | succ j ih =>
    intro x hx
    rw [bitsAcc_succ, List.mem_append] at hx
    rcases hx with hx | hx
    · exact ih x hx
    · unfold rowBits at hx
      split at hx
      · exact wideF_bits _ _ x hx
      · exact msbF_bits _ _ _ x hx
theorem padBits_bits (l : List Int) (d k : Nat) : ∀ x ∈ padBits (bitsAcc l d k), 0 ≤ x ∧ x ≤ 1 := by
  intro x hx
  unfold padBits at hx
  rw [List.mem_append] at hx
  rcases hx with hx | hx
  · exact bitsAcc_bits _ _ _ x hx
  · have := (List.mem_replicate.1 hx).2; omega
theorem getD_of_mem {l : List Int} {p : Int → Prop} (h : ∀ x ∈ l, p x) (h0 : p 0) (i : Nat) : p (l.getD i 0) := by
  by_cases hi : i < l.length
  · exact h _ (getD_mem' l i hi)
  · rw [List.getD_eq_getElem?_getD, List.getElem?_eq_none (by omega)]; exact h0
theorem padBits_done (L : List Int) (j : Nat) (hj : j ≤ (32 - L.length % 32) % 32) (h : (L.length + j) % 32 = 0) : L ++ List.replicate j 0 = padBits L := by
  unfold padBits
  rw [show j = (32 - L.length % 32) % 32 by omega]
theorem getD_take8 (P : List Int) (a i : Nat) (hi : i < 8) : ((P.drop a).take 8).getD i 0 = P.getD (a + i) 0 := by
  rw [List.getD_eq_getElem?_getD, List.getD_eq_getElem?_getD, List.getElem?_take, if_pos hi, List.getElem?_drop]
/-- The number of eight bits in the midst of a row. -/
theorem number8 (P : List Int) (hb : ∀ x ∈ P, 0 ≤ x ∧ x ≤ 1) (g a c m : Nat) (w : World) (hm : 8 * m + 8 ≤ P.length) (ha : a = 8 * m) (hc : ∀ i, i < P.length → w.cell? ⟨g, i, none⟩ = some (.int .i64 (P.getD i 0))) (X : Int) (hX : numI ((P.drop (8 * m)).take 8) false = X) :
    Calls Try.prog 59 #[.slice (some ⟨g, a, none⟩) 8 c, .bool false] w fun e w' => e = .returned (.int .i64 X) ∧ w = w' := by
  subst ha hX
  have hl : ((P.drop (8 * m)).take 8).length = 8 := by rw [List.length_take, List.length_drop]; omega
  have := number_hi ((P.drop (8 * m)).take 8) g (8 * m) c w (by omega) (fun i => ?_) (fun i hi => ?_)
  · rw [hl] at this; exact this
  · by_cases hi : i < 8
    · rw [getD_take8 _ _ _ hi]; exact getD_of_mem hb (by omega) _
    · rw [List.getD_eq_getElem?_getD, List.getElem?_eq_none (by omega)]; simp
  · rw [hl] at hi; rw [getD_take8 _ _ _ hi]; exact hc _ (by omega)
theorem numI8_bd (P : List Int) (hb : ∀ x ∈ P, 0 ≤ x ∧ x ≤ 1) (m : Nat) : 0 ≤ numI ((P.drop (8 * m)).take 8) false ∧ numI ((P.drop (8 * m)).take 8) false < 256 := by
  have h := numAcc_bd ((P.drop (8 * m)).take 8) false (fun i => ?_) ((P.drop (8 * m)).take 8).length
  · have hl : ((P.drop (8 * m)).take 8).length ≤ 8 := by rw [List.length_take]; omega
    have h2 := pow_le' hl
    have h3 : (2 : Int) ^ 8 = 256 := by decide
    unfold numI
    omega
  · by_cases hi : i < 8
    · rw [getD_take8 _ _ _ hi]; exact getD_of_mem hb (by omega) _
    · rw [List.getD_eq_getElem?_getD, List.getElem?_eq_none (by rw [List.length_take]; omega)]; simp
theorem outF_len (P : List Int) (m : Nat) : (outF P m).length = m := by
  induction m with
  | zero => rfl
  | succ m ih => rw [outF_succ, List.length_append, ih]; rfl
theorem owns_ints {w : World} {base e n : Nat} {v : Value} {xs : List Int} (h : w.ownsRow base e 1 v n (xs.map (Value.int .i64))) (hn : 0 < n) : ∃ g cap, v = .slice (some ⟨g, 0, none⟩) xs.length cap ∧ xs.length ≤ cap ∧ cap ≤ maxLen ∧ g < w.heap.size ∧ ∀ i, i < xs.length → w.cell? ⟨g, i, none⟩ = some (.int .i64 (xs.getD i 0)) := by
  have hl := owns_len h
  simp at hl
  obtain ⟨g, cap, rfl, h1, h2, h3, h4⟩ := owns_form h hn
  refine ⟨g, cap, by rw [hl], by omega, h4, h2, fun i hi => ?_⟩
  exact owns_cell h i _ (by rw [List.getElem?_map, List.getElem?_eq_getElem hi, List.getD_eq_getElem?_getD, List.getElem?_eq_getElem hi]; rfl)
theorem ret_str {a b : ByteArray} (h : a = b) : Ending.returned (.string a) = .returned (.string b) := by rw [h]
theorem owns_empty (w : World) (T : TypeId) : (w.alloc (.cells #[] T)).ownsRow w.heap.size T 1 (.slice (some ⟨w.heap.size, 0, none⟩) 0 0) 0 [] :=
  ⟨rfl, Or.inr ⟨w.heap.size, 0, #[], rfl, Nat.le_refl _, heap_alloc_new w _, Nat.le_refl _, Nat.zero_le _, rfl, rfl⟩⟩
set_option maxRecDepth 100000 in
set_option maxHeartbeats 2000000 in
theorem rpack_narrow (l : List Int) (B o cap d : Nat) (w : World) (hB : B < w.heap.size) (hd1 : 1 ≤ d) (hd : d < 8) (hn : l.length ≤ 100) (hg : ∀ i, 0 ≤ l.getD i 0 ∧ l.getD i 0 < 2 ^ d) (hc : ∀ i, i < l.length → w.cell? ⟨B, o + i, none⟩ = some (.int .i64 (l.getD i 0))) :
    Calls Try.prog 26 #[.slice (some ⟨B, o, none⟩) l.length cap, .int .i64 d] w fun e w' => e = .returned (.string (rpackI l d)) ∧ Below w.heap.size w w' := by
  have HC := Lib.hid hc
  have HG := Lib.hid hg
  clear hc hg
  have hd8 : decide ((d : Int) < 8) = true := by rw [decide_eq_true_iff]; omega
  go_enter Try.func26, Try.ntmps26
  go_wp2
  go_loopw [5, 6, 7] (fun v i q wr => ∃ k : Nat, k ≤ l.length ∧ i = .int .i64 k ∧ wr.ownsRow w.heap.size 3 1 v (bitsAcc l d k).length ((bitsAcc l d k).map (.int .i64)) ∧ Below w.heap.size w wr) (fun _ i _ _ => l.length - (intOf i).toNat)
  case atStart => exact ⟨0, by omega, rfl, owns_empty w _, (Below.refl _ _).alloc (Nat.le_refl _) _⟩
  case round =>
    obtain ⟨k, hk, rfl, hown, hb⟩ := hrel
    have hOwn := Lib.hid hown
    have hb' := Lib.hid hb
    have hsz := hb.size
    clear hown hb
    by_cases hlt : k < l.length
    · have hck := ((bcell hb'.out).1 B (o + k) hB).trans (HC.out k hlt)
      obtain ⟨g0, g1⟩ := HG.out k
      obtain ⟨x, hx⟩ : ∃ x, l.getD k 0 = x := ⟨_, rfl⟩
      rw [hx] at hck g0 g1
      have HX := Lib.hid hx
      clear hx
      go_wp2
      obtain ⟨wo, rfl⟩ : ∃ wo : World, wo = wr := ⟨_, rfl⟩
      go_loopw [5, 7] (fun v i wr => ∃ j : Nat, j ≤ d ∧ i = .int .i64 ((d : Int) - 1 - j) ∧ wr.ownsRow w.heap.size 3 1 v (bitsAcc l d k ++ msbF x d j).length ((bitsAcc l d k ++ msbF x d j).map (.int .i64)) ∧ Below w.heap.size w wr) (fun _ i _ => (intOf i + 1).toNat)
      case atStart => exact ⟨0, by omega, by simp, by simpa [msbF] using hOwn.out, hb'.out⟩
      case round =>
        obtain ⟨j, hj, rfl, hown, hb⟩ := hrel
        have hOwn2 := Lib.hid hown
        have hb2 := Lib.hid hb
        have hsz2 := hb.size
        have hck2 := ((bcell hb2.out).1 B (o + k) hB).trans (HC.out k hlt)
        rw [HX.out] at hck2
        have hlen : (bitsAcc l d k ++ msbF x d j).length ≤ 1000 := by
          rw [List.length_append, bitsAcc_len, msbF_len, show rowLen d = d from if_neg (by omega)]
          have : k * d ≤ 100 * 8 := Nat.mul_le_mul (by omega) (by omega)
          omega
        clear hown hb hck
        by_cases hjl : j < d
        · have p0 := pow_pos' (d - 1 - j)
          have hP9 := pow_le' (show d - 1 - j ≤ 9 by omega)
          obtain ⟨P, hP⟩ : ∃ P : Int, 2 ^ (d - 1 - j) = P := ⟨_, rfl⟩
          rw [hP] at p0 hP9
          have HPW := Lib.hid (fun w0 => (power_any ((d : Int) - 1 - j) w0 (by omega) (by omega)).mono (R' := fun e w' => e = .returned (.int .i64 P) ∧ w0 = w') fun e w' hh => by rw [show ((d : Int) - 1 - j).toNat = d - 1 - j by omega, hP] at hh; exact hh)
          have HP := Lib.hid hP
          clear hP
          have hx9 : x < 512 := by
            have h9 := pow_le' (show d ≤ 9 by omega)
            have h10 : (2 : Int) ^ 9 = 512 := by decide
            omega
          obtain ⟨q, hq0, hq1, hq⟩ : ∃ q : Int, 0 ≤ q ∧ q < 1000 ∧ x / P = q := by
            have h1 := Int.ediv_le_self P g0
            exact ⟨_, Int.ediv_nonneg g0 (by omega), by omega, rfl⟩
          have HQ := Lib.hid hq
          have e1 : ¬ (P = 0) := by omega
          have e2 : IntKind.i64.wrap (x.tdiv P) = q := by rw [IntWalk.i64_quo _ _ ⟨g0, by omega, by omega⟩, hq]
          have e3 : IntKind.i64.wrap (q.tmod 2) = q % 2 := by rw [IntWalk.rem_in _ _ hq0]; exact i64_wrap_id _ (by omega) (by omega)
          clear hq hP9 g1
          have hne := World.new_ne wr _ hck2
          have hin0 : (0 : Int) ≤ (k : Int) := by omega
          have hin1 : (k : Int) < (l.length : Int) := by omega
          go_wp2_with fail
          go_region_held3 (fun w' => w'.cell? ⟨B, o + k, none⟩ = some (.int .i64 x)) (first | go_keep | (rw [(bcell (hB1 _ (Below.refl _ _))).1 _ _ (by omega)]; assumption))
            (first
             | (go_at_call 17; (with_reducible refine (HPW.out _).mono ?_); rintro e w1 ⟨rfl, rfl⟩)
             | ((refine step_app1 (by rfl) _ _ _ (by rfl) w.heap.size 3 (.int .i64 0) 8 Try.underlying22 (by kernel_rfl) (by rfl) u5 _ _ (by rfl) ((hOwn2.out.alloc (.cells #[.int .i64 (q.tmod 2)] 3)).drew) (.int .i64 (q.tmod 2)) (by rfl) ⟨wr.heap.size, 0, none⟩ 1 (by rfl) (by simp [go_sem]) (by omega) (by unfold maxLen; omega) (by simp; omega) ?_; intro v' w1 hown1 hB1 hz1)))
          go_wp2
          go_roundw
          case rel => exact ⟨j + 1, by omega, by go_num, owns_eq hown1 (by simp [msbF_succ, Nat.add_assoc]) (by rw [msbF_succ, ← List.append_assoc, List.map_append (l₁ := bitsAcc l d k ++ msbF x d j), HP.out, HQ.out, IntWalk.rem_in _ _ hq0]; rfl), hB1 _ (((hb2.out).alloc hsz2 _).drew)⟩
          case measure => simp [intOf]; omega
        · have hj2 : j = d := by omega
          go_wp2
          go_roundw
          case rel => exact ⟨k + 1, by omega, by go_num, owns_eq hOwn2.out (by rw [bitsAcc_succ, HX.out, rowBits, if_neg (by omega), hj2]) (by rw [bitsAcc_succ, HX.out, rowBits, if_neg (by omega), hj2]), hb2.out⟩
          case measure => simp [intOf]; omega
    · have hge : k = l.length := by omega
      subst hge
      obtain ⟨L, hL⟩ : ∃ L, bitsAcc l d l.length = L := ⟨_, rfl⟩
      have hLb : ∀ x ∈ padBits L, 0 ≤ x ∧ x ≤ 1 := by rw [← hL]; exact padBits_bits _ _ _
      have hLn : L.length ≤ 3200 := by rw [← hL, bitsAcc_len]; exact (by rw [show rowLen d = d from if_neg (by omega)]; have : l.length * d ≤ 100 * 8 := Nat.mul_le_mul (by omega) (by omega); omega)
      have HR := Lib.hid (show rpackI l d = strOf (outF (padBits L) ((padBits L).length / 8)) by rw [← hL]; rfl)
      rw [hL] at hOwn
      have HLb := Lib.hid hLb
      clear hL hLb
      go_wp2
      obtain ⟨wo, rfl⟩ : ∃ wo : World, wo = wr := ⟨_, rfl⟩
      go_loopw [5] (fun v wr => ∃ j : Nat, j ≤ (32 - L.length % 32) % 32 ∧ wr.ownsRow w.heap.size 3 1 v (L ++ List.replicate j 0).length ((L ++ List.replicate j 0).map (.int .i64)) ∧ Below w.heap.size w wr) (fun v _ => L.length + 32 - slLen v)
      case atStart => exact ⟨0, by omega, by simpa using hOwn.out, hb'.out⟩
      case round =>
        obtain ⟨j, hj, hown, hb⟩ := hrel
        have hOwn2 := Lib.hid hown
        have hb2 := Lib.hid hb
        have hsz2 := hb.size
        obtain ⟨a, cp, hv⟩ := owns_shape hown
        obtain ⟨N, hN⟩ : ∃ N, (L ++ List.replicate j 0).length = N := ⟨_, rfl⟩
        have hNj : N = L.length + j := by rw [← hN]; simp
        have NJ := Lib.hid hNj
        have hN2 : N ≤ 3300 := by omega
        rw [hN] at hv hOwn2
        rw [hv] at hOwn2
        rw [hv]
        clear hown hb hN
        by_cases hm : N % 32 = 0
        · have ht : ((N : Int) % 32 != 0) = false := by rw [bne_eq_false_iff_eq]; omega
          have PD := padBits_done L j hj (by omega)
          rw [PD] at hOwn2
          have hPN : (padBits L).length = N := by rw [← PD]; simp; omega
          obtain ⟨PB, hPB⟩ : ∃ PB, padBits L = PB := ⟨_, rfl⟩
          rw [hPB] at hOwn2 HLb HR hPN
          rw [← hPN] at hOwn2 hN2 hm ht
          have hv' := Lib.hid hv
          rw [← hPN]
          clear hNj PD hPB hPN hj hv NJ
          go_wp2
          obtain ⟨wq, rfl⟩ : ∃ wq : World, wq = wr := ⟨_, rfl⟩
          go_loopw [11, 12] (fun v i wr => ∃ m : Nat, 8 * m ≤ PB.length ∧ i = .int .i64 ((8 * m : Nat) : Int) ∧ wr.ownsRow wq.heap.size 5 1 v (outF PB m).length ((outF PB m).map (.int .u8)) ∧ Below wq.heap.size wq wr) (fun _ i _ => PB.length - (intOf i).toNat)
          case atStart => exact ⟨0, by omega, rfl, owns_empty wq _, (Below.refl _ _).alloc (Nat.le_refl _) _⟩
          case round =>
            obtain ⟨m, hm8, rfl, hown3, hb3⟩ := hrel
            have hOwn3 := Lib.hid hown3
            have hB3 := Lib.hid hb3
            have hsz3 := hb3.size
            have hol : (outF PB m).length ≤ 3300 := by rw [outF_len]; omega
            have hcv := owns_string (P := Try.prog) hown3 86 9 5 Try.underlying86 Try.underlying5 Try.underlying9
            clear hown3 hb3
            by_cases hlt8 : 8 * m < PB.length
            · obtain ⟨g, cap2, hv2, hcap, hcapm, hg, hcells⟩ := owns_ints hOwn2.out (by omega)
              injection hv2 with hv2 hv3 hv4
              subst hv2 hv4
              have hm88 : 8 * m + 8 ≤ PB.length := by omega
              have HX0 := numI8_bd PB HLb.out m
              obtain ⟨X, hX⟩ : ∃ X, numI ((PB.drop (8 * m)).take 8) false = X := ⟨_, rfl⟩
              rw [hX] at HX0
              obtain ⟨x0, x1⟩ := HX0
              have HN8 := Lib.hid (fun a c w0 (ha : a = 8 * m) (hc : ∀ i, i < PB.length → w0.cell? ⟨g, i, none⟩ = some (.int .i64 (PB.getD i 0))) => number8 PB HLb.out g a c m w0 hm88 ha hc X hX)
              have HC8 := Lib.hid (fun i (hi : i < PB.length) => ((bcell hB3.out).1 g i hg).trans (hcells i hi))
              have HX := Lib.hid hX
              have hw : IntKind.u8.wrap X = X := by rw [IntKind.wrap_u8]; omega
              clear hX hcells hcv
              unfold maxLen at hcapm
              go_wp2_with (first
                | (go_at_call 59; (with_reducible refine (HN8.out _ _ _ (by first | rfl | omega | (simp; done)) HC8.out).mono ?_); rintro e w1 ⟨rfl, rfl⟩)
                | (at_builtin; refine app1 rfl (.tmp 80) (.tmp 88) 86 rfl wq.heap.size 5 (.int .u8 0) 1 Try.underlying86 (by kernel_rfl) rfl _ _ _ rfl hOwn3.out _ rfl _ rfl (by omega) (by unfold maxLen; omega) hsz3 ?_; intro v' w1 hown1 hB1 hz1; have O1 := Lib.hid hown1; have B1 := Lib.hid hB1; clear hown1 hB1))
              go_roundw
              case rel => exact ⟨m + 1, by omega, by go_num, owns_eq O1.out (by simp [outF_succ]) (by rw [outF_succ, HX.out, List.map_append]; rfl), B1.out _ hB3.out⟩
              case measure => simp [intOf]; omega
            · have HM := Lib.hid (show m = PB.length / 8 by omega)
              go_wp2
              go_ret
              exact ⟨ret_str (by rw [HR.out, HM.out]), hb2.out.trans (hB3.out.mono hsz2)⟩
        · have ht : ((N : Int) % 32 != 0) = true := by rw [bne_iff_ne]; omega
          clear hNj
          go_wp2_with (at_builtin; refine app1 rfl (.tmp 70) (.tmp 71) 22 rfl w.heap.size 3 (.int .i64 0) 8 Try.underlying22 (by kernel_rfl) rfl _ _ _ rfl hOwn2.out _ rfl _ rfl (by omega) (by unfold maxLen; omega) hsz2 ?_; intro v' w1 hown1 hB1 hz1; have O1 := Lib.hid hown1; have B1 := Lib.hid hB1; clear hown1 hB1)
          go_roundw
          case rel => exact ⟨j + 1, by have := NJ.out; omega, owns_eq O1.out (by have := NJ.out; simp; omega) (by rw [List.replicate_succ']; simp), B1.out w hb2.out⟩
          case measure =>
            have h1 := owns_shape O1.out
            obtain ⟨a', cp', hv'⟩ := h1
            have := NJ.out
            rw [hv']; simp only [slLen]; omega
end Go.Proofs.Ytobpocdpnkicnaa
