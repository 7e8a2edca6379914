/- The law TgaheadReads: its comparison, walked. -/
import Derived.Test.YtlhcjnjajkfahaaT4
import Derived.Test.YtlhcjnjajkfahaaT7
namespace Go.Proofs.Ytlhcjnjajkfahaa
open Go.RowKit
set_option linter.unusedVariables false
set_option linter.unusedSimpArgs false
theorem Chk.none_is (c : Chk) : ∀ (n i : Nat), c.from n i = none → c.isFrom n i = true
  | 0, _, _ => rfl
  | n + 1, i, h => by
    unfold Chk.from at h
    unfold Chk.isFrom
    cases hb : (c.row i).1 with
    | true => rw [hb, if_pos rfl] at h; cases h
    | false => rw [hb, if_neg (by decide)] at h; simpa using c.none_is n (i + 1) h
theorem Chk.row_kind (c : Chk) (i : Nat) (h : i < 12) : (c.row i).2.1 = 2 ∨ (c.row i).2.1 = 3 := by
  match i, h with
  | 0, _ | 1, _ | 2, _ | 3, _ | 4, _ | 5, _ | 6, _ | 7, _ | 8, _ | 9, _ | 10, _ | 11, _ => simp [Chk.row]
theorem Chk.row_place (c : Chk) (i : Nat) (h : i < 12) : 0 ≤ (c.row i).2.2.1 ∧ (c.row i).2.2.1 ≤ 17 := by
  match i, h with
  | 0, _ | 1, _ | 2, _ | 3, _ | 4, _ | 5, _ | 6, _ | 7, _ | 8, _ | 9, _ | 10, _ | 11, _ => exact ⟨by simp [Chk.row], by simp [Chk.row]⟩
theorem Chk.some_from (c : Chk) : ∀ (n i : Nat), n + i = 12 → ∀ p, c.from n i = some p → (p.1 = 2 ∨ p.1 = 3) ∧ 0 ≤ p.2 ∧ p.2 ≤ 17
  | 0, _, _, p, h => by cases h
  | n + 1, i, hn, p, h => by
    unfold Chk.from at h
    cases hb : (c.row i).1 with
    | true =>
      rw [hb, if_pos rfl] at h
      injection h with h; subst h
      exact ⟨c.row_kind i (by omega), c.row_place i (by omega)⟩
    | false => rw [hb, if_neg (by decide)] at h; exact c.some_from n (i + 1) (by omega) p h
theorem ext_append (a s : ByteArray) (n : Nat) : (a ++ s).extract a.size (a.size + n) = s.extract 0 n := by
  apply ByteArray.ext
  simp [ByteArray.data_extract, ByteArray.data_append]
theorem headL_ext (s : ByteArray) (h : 18 ≤ s.size) : headL (s.extract 0 18) = headL s := by
  have e : ∀ i, i < 18 → byN (s.extract 0 18) i = byN s i := fun i hi => by rw [byN_ext s 0 18 i (by omega) h, Nat.zero_add]
  unfold headL wordN
  rw [e 0 (by omega), e 1 (by omega), e 2 (by omega), e 3 (by omega), e 7 (by omega), e 5 (by omega), e 12 (by omega), e 14 (by omega), e 16 (by omega), e 17 (by omega), e (3 + 1) (by omega), e (5 + 1) (by omega), e (12 + 1) (by omega), e (14 + 1) (by omega)]
/-- What is read, by both, of a text: a fault (and its place), or a head. -/
theorem read_cases (a s : ByteArray) (L : Nat) (hz : (a ++ s).size ≤ 9223372036854775807) : 
    (∃ k p : Int, (k = 1 ∨ k = 2 ∨ k = 3) ∧ 0 ≤ p ∧ p ≤ s.size + 17 ∧ tRead ⟨L, a ++ s, 0, (a ++ s).size, a.size⟩ (Led.new 0 0 0 9) = (zero12, [.int .i64 k, .int .i64 2, .int .i64 (a.size + p)]) ∧ rRes16 s = rBad16 k p) ∨
    (18 ≤ s.size ∧ isTga s = true ∧ tRead ⟨L, a ++ s, 0, (a ++ s).size, a.size⟩ (Led.new 0 0 0 9) = (headL s, [.int .i64 0, .int .i64 0, .int .i64 0]) ∧ rRes16 s = rHead16 s ∧ (Sr.next ⟨L, a ++ s, 0, (a ++ s).size, a.size⟩ (Led.new 0 0 0 9) 18).1.1.p = a.size + 18) := by
  have hsz : (a ++ s).size = a.size + s.size := ByteArray.size_append
  have hw : ((Led.new 0 0 0 9).work 1) = ({ Led.new 0 0 0 9 with st := 1 }, true) := rfl
  by_cases h : s.size < 18
  · left
    have hn : Sr.next ⟨L, a ++ s, 0, (a ++ s).size, a.size⟩ (Led.new 0 0 0 9) 18 = ((⟨L, a ++ s, 0, (a ++ s).size, a.size⟩, { Led.new 0 0 0 9 with st := 1 }), (ByteArray.empty, false)) := by
      unfold Sr.next; rw [hw, if_neg (by simp only; omega)]
    refine ⟨1, s.size, Or.inl rfl, by omega, by omega, ?_, by unfold rRes16; rw [if_pos h]⟩
    unfold tRead
    rw [hn]
    show (zero12, faultL _ _ 2) = _
    unfold faultL
    rw [if_neg (by exact Bool.false_ne_true)]
    simp only [hsz]
    rfl
  · have hn : Sr.next ⟨L, a ++ s, 0, (a ++ s).size, a.size⟩ (Led.new 0 0 0 9) 18 = ((⟨L, a ++ s, 0, (a ++ s).size, a.size + 18⟩, { Led.new 0 0 0 9 with st := 1 }), (s.extract 0 18, true)) := by
      unfold Sr.next; rw [hw, if_pos ⟨rfl, by omega, by simp only; omega⟩]
      simp only
      congr 2
      exact ext_append a s 18
    have hx := chkS_ext s (by omega)
    have hR : rRes16 s = match (chkS s).first with | some p => rBad16 p.1 p.2 | none => rHead16 s := by unfold rRes16; rw [if_neg h]; rfl
    unfold tRead
    rw [hn]
    simp only [if_true, hx]
    cases hf : (chkS s).first with
    | none =>
      right
      rw [hf] at hR
      refine ⟨by omega, ?_, ?_, hR, by first | trivial | rfl⟩
      · unfold isTga; rw [decide_eq_true (by omega : 18 ≤ s.size)]; exact (chkS s).none_is 12 0 hf
      · rw [headL_ext s (by omega)]
    | some p =>
      left
      rw [hf] at hR
      obtain ⟨h1, h2, h3⟩ := (chkS s).some_from 12 0 rfl p hf
      exact ⟨p.1, p.2, by omega, h2, by omega, rfl, hR⟩
/-- .. of an operation that is guarded, and wanted. -/
theorem load_og {P : Program} {ops : Array Oper} {rest : List Oper} {op : Oper} {a : Act} {w : World} {Q : Exit → Act → World → Prop} (hw : Region.wanted op (yielded ops a.tmps) = true) (ty : TypeId) (n : Nat) (x : Operand) (ho : op.op = .load ty x)
    (b : Nat) (YS : List Value) (hl : YS.length = n) (hx : a.eval x = .pointer (some ⟨b, 0, none⟩)) {T : TypeId} (hO : Obj1 w b YS.toArray T) {d : TypeDesc} (hu : P.underlying ty = some d) (hd : d.isRow = true) (hi : (P.info? ty).map (·.size) = some n)
    (h : wpList P ops Q rest (a.put op.dst (.agg YS.toArray)) w) : wpList P ops Q (op :: rest) a w := by
  rw [wpList, if_pos hw]
  exact Or.inl (wp_load_mid ty x ho b 0 hx YS d hO.range0 hu hd (by rw [hl]; exact hi) h)
end Go.Proofs.Ytlhcjnjajkfahaa
