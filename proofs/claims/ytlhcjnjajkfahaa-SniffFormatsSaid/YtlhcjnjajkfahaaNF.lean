/- sniff.small: a text whose letters are small ones. -/
import Derived.Test.YtlhcjnjajkfahaaS6
import Derived.Test.YtlhcjnjajkfahaaA2
import Derived.Laws.IdiomStrings
namespace Go.Proofs.Ytlhcjnjajkfahaa
open Go.RowKit
set_option linter.unusedVariables false
set_option linter.unusedSimpArgs false
def smN (x : Int) : Int := if 65 ≤ x ∧ x ≤ 90 then x + 32 else x
def smallL (s : ByteArray) : List Int := (List.range s.size).map (fun j => smN (byN s j))
/-- '[]byte(s)' laid: its cells, by their bytes. -/
theorem conv_bytes {P : Program} (w : World) (src dst e : TypeId) (s : ByteArray) (hs : P.underlying src = some .string) (hd : P.underlying dst = some (.slice e)) (he : P.underlying e = some (.int .u8)) :
    ∃ cap W1, (convert src dst (.string s)).run P w = .ok (.slice (some ⟨w.heap.size, 0, none⟩) s.size cap) W1 ∧ s.size ≤ cap ∧
      (∀ j, j < s.size → W1.cell? ⟨w.heap.size, j, none⟩ = some (.int .u8 (byN s j))) ∧ (∀ j, j < s.size → W1.frozen? ⟨w.heap.size, j, none⟩ = false) ∧ Below w.heap.size w W1 ∧ w.heap.size < W1.heap.size := by
  obtain ⟨cap, hcap⟩ : ∃ cap, grownCap w s.size 0 e = cap := ⟨_, rfl⟩
  have hge : s.size ≤ cap := by rw [← hcap]; exact grownCap_ge w s.size 0 e
  obtain ⟨C, hC⟩ : ∃ C, bytesRow s cap = C := ⟨_, rfl⟩
  have hCs : C.size = cap := by
    rw [← hC]; unfold bytesRow
    have : s.data.size = s.size := rfl
    simp [this]; omega
  have hr := run_bytes_of_string w src dst e s hs hd he
  rw [hcap, hC] at hr
  have hh : (w.drew.alloc (.cells C e (C.size, C.size + 1))).heap[w.heap.size]? = some (.cells C e (C.size, C.size + 1)) := by
    show (w.heap.push _)[w.heap.size]? = _
    simp
  refine ⟨cap, _, hr, hge, ?_, ?_, ?_, ?_⟩
  · intro j hj
    have hC2 : C[j]? = some (.int .u8 (byN s j)) := by
      rw [← hC]; unfold bytesRow
      have hd2 : s.data.size = s.size := rfl
      rw [Array.getElem?_append_left (by simpa using hj)]
      rw [Array.getElem?_map, Array.getElem?_eq_getElem hj]
      show some (Value.int .u8 (s[j].toNat : Int)) = _
      rw [byN_get s j hj]
    show (match (w.drew.alloc (.cells C e (C.size, C.size + 1))).heap[w.heap.size]? with | some (.cells a _ _) => a[j]? | _ => none) = _
    rw [hh]; exact hC2
  · intro j hj
    show (match (w.drew.alloc (.cells C e (C.size, C.size + 1))).heap[w.heap.size]? with | some (.cells _ _ (lo, hi)) => decide (lo ≤ j) && decide (j < hi) | _ => false) = _
    rw [hh]
    have : ¬ C.size ≤ j := by omega
    simp [this]
  · exact ((Below.refl w.heap.size w).drew).alloc (Nat.le_refl _) _
  · show w.heap.size < (w.heap.push _).size
    simp
theorem smN_code (x : Int) (h1 : 65 ≤ x) (h2 : x ≤ 90) : (x + 97 - 65) % 256 = smN x := by
  unfold smN
  rw [if_pos ⟨h1, h2⟩]
  omega
theorem cells_string {P : Program} {w : World} {g n cap : Nat} {ns : List Int} (hl : ns.length = n) (hc : ∀ j, j < n → w.cell? ⟨g, j, none⟩ = some (.int .u8 (ns.getD j 0))) (src dst e' : TypeId)
    (hs : P.underlying src = some (.slice e')) (he : P.underlying e' = some (.int .u8)) (hd : P.underlying dst = some .string) : (convert src dst (.slice (some ⟨g, 0, none⟩) n cap)).run P w = .ok (.string (strOf ns)) w := by
  rw [run_convert_bytes_string w src dst e' _ n cap hs he hd]
  refine run_bytesToString w _ n cap ns ?_
  have := run_loadCells_list (P := P) w ⟨g, 0, none⟩ (ns.map (Value.int .u8)) (fun j v hv => by
    rw [Addr.add_mid, Nat.zero_add]
    have hj : j < n := by
      have := (List.getElem?_eq_some_iff.1 hv).1
      rw [List.length_map, hl] at this; exact this
    rw [hc j hj, List.getD_eq_getElem?_getD]
    rw [List.getElem?_map, List.getElem?_eq_getElem (by omega)] at hv
    rw [List.getElem?_eq_getElem (by omega)]
    simpa using hv)
  rw [List.length_map, hl] at this; exact this
theorem smallL_get (s : ByteArray) (j : Nat) (h : j < s.size) : (smallL s).getD j 0 = smN (byN s j) := by
  unfold smallL
  rw [List.getD_eq_getElem?_getD, List.getElem?_map, List.getElem?_range h]
  rfl
set_option maxRecDepth 100000 in
set_option maxHeartbeats 4000000 in
theorem small_any (s : ByteArray) (w : World) (hs : s.size ≤ 9223372036854775807) : Calls Try.prog 65 #[.string s] w (fun e w' => e = .returned (.string (strOf (smallL s))) ∧ Below w.heap.size w w') := by
  obtain ⟨cap, W1, hcv, hge, hC, hF, hb, hz⟩ := conv_bytes (P := Try.prog) w 9 72 5 s Try.underlying9 Try.underlying72 Try.underlying5
  obtain ⟨n, hn⟩ : ∃ n, s.size = n := ⟨_, rfl⟩
  obtain ⟨g, hg⟩ : ∃ g, w.heap.size = g := ⟨_, rfl⟩
  rw [hn, hg] at hcv
  rw [hn, hg] at hC hF
  rw [hn] at hge hs
  have HC := Lib.hid hC
  have HF := Lib.hid hF
  have BL := Lib.hid hb
  rw [hg] at hz
  clear hC hF hb
  have hcb := fun W (hh : ∀ j, j < n → W.cell? ⟨g, j, none⟩ = some (.int .u8 ((smallL s).getD j 0))) => cells_string (P := Try.prog) (w := W) (cap := cap) (show (smallL s).length = n by unfold smallL; simp [hn]) hh 72 9 5 Try.underlying72 Try.underlying5 Try.underlying9
  have HB := Lib.hid hcb
  clear hcb
  go_enter Try.func65, Try.ntmps65
  go_wp2
  go_loopw [4, 5, 10] (fun v4 v5 c wr => ∃ k : Nat, k ≤ n ∧ c = .int .i64 k ∧ (∀ j, j < n → wr.cell? ⟨g, j, none⟩ = some (.int .u8 (if j < k then smN (byN s j) else byN s j))) ∧ (∀ j, j < n → wr.frozen? ⟨g, j, none⟩ = false) ∧ Below w.heap.size w wr) (fun _ _ c _ => n - (intOf c).toNat)
  case atStart => exact ⟨0, by omega, rfl, fun j hj => by rw [if_neg (by omega)]; exact HC.out j hj, HF.out, BL.out⟩
  case round =>
    obtain ⟨k, hk, rfl, hC, hF, hb⟩ := hrel
    have BK := Lib.hid hb
    clear hb
    by_cases hlt : k < n
    rotate_left
    · have hge2 : n ≤ k := by omega
      have hcv2 := HB.out wr (fun j hj => by rw [hC j hj, if_pos (by omega), smallL_get s j (by omega)])
      clear hC hF HC HF hcv
      go_wp2
      go_ret
      exact ⟨rfl, BK.out⟩
    · have hge2 : ¬ n ≤ k := by omega
      have ck := hC k hlt
      rw [if_neg (by omega)] at ck
      have fk := hF k hlt
      have HC2 := Lib.hid hC
      have HF2 := Lib.hid hF
      have hbd := byN_bd s k
      obtain ⟨b, hbk⟩ : ∃ b, byN s k = b := ⟨_, rfl⟩
      have EB := Lib.hid hbk
      rw [hbk] at ck hbd
      clear hC hF HC HF hcv hbk
      by_cases h1 : 65 ≤ b
      · have D1 : decide (b ≥ 65) = true := decide_eq_true h1
        by_cases h2 : b ≤ 90
        · have D2 : decide (b ≤ 90) = true := decide_eq_true h2
          have EN := Lib.hid (smN_code b h1 h2)
          clear h1 h2 hbd
          go_wp2
          go_roundw
          case rel => exact ⟨k + 1, by omega, by go_num, fun j hj => by
            by_cases e : j = k
            · subst e; rw [World.cell?_setCell_same' _ _ _ (by rw [ck]; rfl), if_pos (by omega), EB.out, EN.out]
            · rw [World.cell?_setCell_other _ _ _ _ (by intro h; injection h with _ h; exact e h.symm), HC2.out j hj]
              by_cases e2 : j < k
              · rw [if_pos e2, if_pos (by omega)]
              · rw [if_neg e2, if_neg (by omega)], fun j hj => by rw [World.frozen?_setCell]; exact HF2.out j hj, Below.setCell BK.out (p := ⟨g, k, none⟩) (by rw [hg]; exact Nat.le_refl _) _⟩
          case measure => simp [intOf]; omega
        · have D2 : decide (b ≤ 90) = false := decide_eq_false h2
          have EN := Lib.hid (show smN b = b by unfold smN; rw [if_neg (by omega)])
          clear h1 h2 hbd
          go_wp2
          go_roundw
          case rel => exact ⟨k + 1, by omega, by go_num, fun j hj => by
            rw [HC2.out j hj]
            by_cases e : j = k
            · subst e; rw [if_neg (by omega), if_pos (by omega), EB.out, EN.out]
            · by_cases e2 : j < k
              · rw [if_pos e2, if_pos (by omega)]
              · rw [if_neg e2, if_neg (by omega)], HF2.out, BK.out⟩
          case measure => simp [intOf]; omega
      · have D1 : decide (b ≥ 65) = false := decide_eq_false h1
        have EN := Lib.hid (show smN b = b by unfold smN; rw [if_neg (by omega)])
        clear h1 hbd
        go_wp2
        go_roundw
        case rel => exact ⟨k + 1, by omega, by go_num, fun j hj => by
          rw [HC2.out j hj]
          by_cases e : j = k
          · subst e; rw [if_neg (by omega), if_pos (by omega), EB.out, EN.out]
          · by_cases e2 : j < k
            · rw [if_pos e2, if_pos (by omega)]
            · rw [if_neg e2, if_neg (by omega)], HF2.out, BK.out⟩
        case measure => simp [intOf]; omega
end Go.Proofs.Ytlhcjnjajkfahaa
