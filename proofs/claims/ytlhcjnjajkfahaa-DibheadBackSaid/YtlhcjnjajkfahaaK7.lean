/- tgahead.Is, walked. -/
import Derived.Test.YtlhcjnjajkfahaaK6
import Derived.Test.YtlhcjnjajkfahaaK1
namespace Go.Proofs.Ytlhcjnjajkfahaa
open Go.RowKit
set_option linter.unusedVariables false
set_option linter.unusedSimpArgs false
structure Chk where
  x1 : Int
  kn : Bool
  pb : Bool
  th : Bool
  c7 : Bool
  C : Int
  W : Int
  H : Int
  dp : Bool
  f : Int
  al : Bool
def Chk.arr (c : Chk) : Array Value := chkArr c.x1 c.kn c.pb c.th c.c7 c.C c.W c.H c.dp c.f c.al
def Chk.row (c : Chk) : Nat → Bool × Int × Int × Bool
  | 0 => (decide (1 < c.x1), 2, 1, false)
  | 1 => (!c.kn, 3, 2, false)
  | 2 => (c.pb && !c.th, 2, 1, false)
  | 3 => (c.th && !c.c7, 3, 7, false)
  | 4 => (c.th && c.C == 0, 2, 5, true)
  | 5 => (c.W == 0, 2, 12, false)
  | 6 => (decide (16384 < c.W), 3, 12, true)
  | 7 => (c.H == 0, 2, 14, false)
  | 8 => (decide (16384 < c.H), 3, 14, true)
  | 9 => (!c.dp, 3, 16, false)
  | 10 => (c.f / 64 != 0, 3, 17, true)
  | 11 => (!c.al, 2, 17, true)
  | _ => (false, 0, 0, false)
theorem Chk.row_cells (c : Chk) (i : Nat) (h : i < 12) : c.arr[i * 4]? = some (.bool (c.row i).1) ∧ c.arr[i * 4 + 1]? = some (.int .i64 (c.row i).2.1) ∧ c.arr[i * 4 + 2]? = some (.int .i64 (c.row i).2.2.1) ∧ c.arr[i * 4 + 3]? = some (.bool (c.row i).2.2.2) := by
  match i, h with
  | 0, _ => exact ⟨rfl, rfl, rfl, rfl⟩
  | 1, _ => exact ⟨rfl, rfl, rfl, rfl⟩
  | 2, _ => exact ⟨rfl, rfl, rfl, rfl⟩
  | 3, _ => exact ⟨rfl, rfl, rfl, rfl⟩
  | 4, _ => exact ⟨rfl, rfl, rfl, rfl⟩
  | 5, _ => exact ⟨rfl, rfl, rfl, rfl⟩
  | 6, _ => exact ⟨rfl, rfl, rfl, rfl⟩
  | 7, _ => exact ⟨rfl, rfl, rfl, rfl⟩
  | 8, _ => exact ⟨rfl, rfl, rfl, rfl⟩
  | 9, _ => exact ⟨rfl, rfl, rfl, rfl⟩
  | 10, _ => exact ⟨rfl, rfl, rfl, rfl⟩
  | 11, _ => exact ⟨rfl, rfl, rfl, rfl⟩
/-- The first row that is wrong: its kind and place. -/
def Chk.from (c : Chk) : Nat → Nat → Option (Int × Int)
  | 0, _ => none
  | n + 1, i => if (c.row i).1 = true then some ((c.row i).2.1, (c.row i).2.2.1) else c.from n (i + 1)
def Chk.first (c : Chk) : Option (Int × Int) := c.from 12 0
def Chk.isFrom (c : Chk) : Nat → Nat → Bool
  | 0, _ => true
  | n + 1, i => if ((c.row i).1 && !(c.row i).2.2.2) = true then false else c.isFrom n (i + 1)
def Chk.is (c : Chk) : Bool := c.isFrom 12 0
theorem Chk.is_next (c : Chk) {i : Nat} (h : i < 12) {r : Bool × Int × Int × Bool} (hr : c.row i = r) (hb : (r.1 && !r.2.2.2) = false) : c.isFrom (12 - i) i = c.isFrom (12 - (i + 1)) (i + 1) := by
  rw [show 12 - i = (12 - (i + 1)) + 1 by omega]; conv => lhs; unfold Chk.isFrom
  rw [hr, hb]; rfl
theorem Chk.is_bad (c : Chk) {i : Nat} (h : i < 12) {r : Bool × Int × Int × Bool} (hr : c.row i = r) (hb : (r.1 && !r.2.2.2) = true) : c.isFrom (12 - i) i = false := by
  rw [show 12 - i = (12 - (i + 1)) + 1 by omega]; unfold Chk.isFrom; rw [hr, hb]; rfl
theorem Chk.from_next (c : Chk) {i : Nat} (h : i < 12) {r : Bool × Int × Int × Bool} (hr : c.row i = r) (hb : r.1 = false) : c.from (12 - i) i = c.from (12 - (i + 1)) (i + 1) := by
  rw [show 12 - i = (12 - (i + 1)) + 1 by omega]; conv => lhs; unfold Chk.from
  rw [hr, hb]; rfl
theorem Chk.from_bad (c : Chk) {i : Nat} (h : i < 12) {r : Bool × Int × Int × Bool} (hr : c.row i = r) (hb : r.1 = true) : c.from (12 - i) i = some (r.2.1, r.2.2.1) := by
  rw [show 12 - i = (12 - (i + 1)) + 1 by omega]; unfold Chk.from; rw [hr, hb]; rfl
theorem Chk.is_eq (c : Chk) : c.is = (!decide (1 < c.x1) && (c.kn && (!(c.pb && !c.th) && (!(c.th && !c.c7) && (!(c.W == 0) && (!(c.H == 0) && c.dp)))))) := by
  obtain ⟨x1, kn, pb, th, c7, C, W, H, dp, f, al⟩ := c
  simp only [Chk.is, Chk.isFrom, Chk.row]
  cases decide (1 < x1) <;> cases kn <;> cases pb <;> cases th <;> cases c7 <;> cases (W == 0) <;> cases (H == 0) <;> cases dp <;> simp
def chkS (s : ByteArray) : Chk := ⟨byN s 1, knownB (byN s 2), plainI (byN s 2) == 1, byN s 1 == 1, colB (byN s 7), wordN s 5, wordN s 12, wordN s 14, depB (byN s 2) (byN s 16), byN s 17, alpB (byN s 16) (bits .and .i64 (byN s 17) 15)⟩
theorem chkOf_arr (s : ByteArray) : chkOf s = (chkS s).arr := rfl
theorem byN_ext (s : ByteArray) (a b i : Nat) (h : a + i < b) (hb : b ≤ s.size) : byN (s.extract a b) i = byN s (a + i) := by
  have h1 : i < (s.extract a b).size := by rw [ByteArray.size_extract]; omega
  rw [← byN_get (s.extract a b) i h1, ← byN_get s (a + i) (by omega), ByteArray.getElem_extract]
theorem chkS_ext (s : ByteArray) (h : 18 ≤ s.size) : chkS (s.extract 0 18) = chkS s := by
  have e : ∀ i, i < 18 → byN (s.extract 0 18) i = byN s i := fun i hi => by rw [byN_ext s 0 18 i (by omega) h, Nat.zero_add]
  unfold chkS wordN
  rw [e 1 (by omega), e 2 (by omega), e 7 (by omega), e 5 (by omega), e 12 (by omega), e 14 (by omega), e 16 (by omega), e 17 (by omega), e (5 + 1) (by omega), e (12 + 1) (by omega), e (14 + 1) (by omega)]
theorem checks_c (s : ByteArray) (c : Chk) (w : World) (h : 18 ≤ s.size) (hc : chkS s = c) : Calls Try.prog 93 #[.string (s.extract 0 18)] w fun e w' => ∃ B T, e = .returned (.slice (some ⟨B, 0, none⟩) 12 12) ∧ Obj1 w' B c.arr T ∧ w.heap.size ≤ B ∧ Below w.heap.size w w' := by
  refine (checks_any (s.extract 0 18) w (by rw [ByteArray.size_extract]; omega)).mono ?_
  rintro e w' ⟨B, T, h1, h2, h3⟩
  rw [chkOf_arr, chkS_ext s h, hc] at h2
  exact ⟨B, T, h1, h2, h3⟩
def isTga (s : ByteArray) : Bool := decide (18 ≤ s.size) && (chkS s).is
set_option maxRecDepth 100000 in
set_option maxHeartbeats 4000000 in
theorem tis_any (s : ByteArray) (w : World) (hs : s.size ≤ 9223372036854775807) : Calls Try.prog 60 #[.string s] w fun e w' => e = .returned (.bool (isTga s)) ∧ Below w.heap.size w w' := by
  by_cases h : s.size < 18
  · have D0 : decide ((s.size : Int) < 18) = true := by rw [decide_eq_true_iff]; omega
    have E := Lib.hid (show isTga s = false by unfold isTga; rw [decide_eq_false (by omega)]; rfl)
    go_enter Try.func60, Try.ntmps60
    go_wp2
    go_ret
    exact ⟨ret_b E.out.symm, Below.refl _ _⟩
  · have D0 : decide ((s.size : Int) < 18) = false := by rw [decide_eq_false_iff_not]; omega
    have h18 : 18 ≤ s.size := by omega
    obtain ⟨c, hc⟩ : ∃ c, chkS s = c := ⟨_, rfl⟩
    have E := Lib.hid (show isTga s = c.is by unfold isTga; rw [decide_eq_true h18, hc]; rfl)
    have HC := Lib.hid (fun w0 => checks_c s c w0 h18 hc)
    clear hc
    go_enter Try.func60, Try.ntmps60
    go_wp2_with (go_at_call 93; (with_reducible refine (HC.out _).mono ?_); rintro e w1 ⟨B, T, rfl, hO, hB, hb⟩)
    have HB := Lib.hid hb
    have HO := Lib.hid hO
    have lB := hO.lt
    clear hb hO
    go_loopw [4, 12] (fun q4 q12 wr => ∃ i : Nat, i ≤ 12 ∧ q12 = .int .i64 i ∧ c.is = c.isFrom (12 - i) i ∧ Below w1.heap.size w1 wr) (fun _ q12 _ => 12 - (intOf q12).toNat)
    case atStart => exact ⟨0, by omega, rfl, rfl, Below.refl _ _⟩
    case round =>
      obtain ⟨i, hi, rfl, hf, hb⟩ := hrel
      have Hb := Lib.hid hb
      have Hf := Lib.hid hf
      clear hb hf
      by_cases hlt : i < 12
      · have D1 : decide ((i : Int) < 12) = true := by rw [decide_eq_true_iff]; omega
        obtain ⟨r0, r1, r2, r3⟩ := c.row_cells i hlt
        obtain ⟨⟨wr0, kd, at0, lo⟩, hrow⟩ : ∃ r, c.row i = r := ⟨_, rfl⟩
        have HO2 := HO.out.below Hb.out lB
        rw [hrow] at r0 r1 r2 r3
        have c0 : wr.cell? ⟨B, i * 4, none⟩ = some (.bool wr0) := (HO2.cell _).trans r0
        have c1 : wr.cell? ⟨B, i * 4 + 1, none⟩ = some (.int .i64 kd) := (HO2.cell _).trans r1
        have c2 : wr.cell? ⟨B, i * 4 + 2, none⟩ = some (.int .i64 at0) := (HO2.cell _).trans r2
        have c3 : wr.cell? ⟨B, i * 4 + 3, none⟩ = some (.bool lo) := (HO2.cell _).trans r3
        have HROW := Lib.hid hrow
        clear r0 r1 r2 r3 HO2 hrow
        cases wr0 <;> cases lo
        all_goals go_wp2_with fail
        · exact ⟨⟨i + 1, by omega, by go_num, Hf.out.trans (c.is_next hlt HROW.out rfl), Hb.out.alloc Hb.out.size _⟩, by simp [intOf]; omega⟩
        · exact ⟨⟨i + 1, by omega, by go_num, Hf.out.trans (c.is_next hlt HROW.out rfl), Hb.out.alloc Hb.out.size _⟩, by simp [intOf]; omega⟩
        · go_ret
          exact ⟨ret_b (by rw [E.out, Hf.out, c.is_bad hlt HROW.out rfl]), bthen (Hb.out.alloc Hb.out.size _) HB.out HB.out.size⟩
        · exact ⟨⟨i + 1, by omega, by go_num, Hf.out.trans (c.is_next hlt HROW.out rfl), Hb.out.alloc Hb.out.size _⟩, by simp [intOf]; omega⟩
      · obtain rfl : i = 12 := by omega
        have D1 : decide (((12 : Nat) : Int) < 12) = false := by decide
        go_wp2_with fail
        go_ret
        exact ⟨ret_b (by rw [E.out, Hf.out]; rfl), bthen Hb.out HB.out HB.out.size⟩
end Go.Proofs.Ytlhcjnjajkfahaa
