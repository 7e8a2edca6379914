/- A buffer's Set, Put, Get; walked. -/
import Derived.Test.YtlfbaggcfaenlaaGreatK1
import Derived.Lib.BufferWrite
import Derived.Test.YtlfbaggcfaenlaaGreatK0
import Derived.Deep.RegionHeld
namespace Go.Proofs.YtlfbaggcfaenlaaGreat
open Go.RowKit
set_option linter.unusedVariables false
set_option linter.unusedSimpArgs false
theorem Obj1.setU {w : World} {g : Nat} {L : List Int} {T : TypeId} (h : Obj1 w g (u8s L).toArray T) (i : Nat) (x : Int) : Obj1 (w.setCell ⟨g, i, none⟩ (.int .u8 x)) g (u8s (L.set i x)).toArray T := by
  have h1 := h.set i (.int .u8 x)
  rw [show (u8s L).toArray.setIfInBounds i (.int .u8 x) = (u8s (L.set i x)).toArray by unfold u8s; rw [List.setIfInBounds_toArray, List.map_set]] at h1
  exact h1
theorem Bf.cells_len (b : Bf) (d : List Int) (h : d.length = b.d.length) : Bf.cells { b with d := d } = b.cells := by
  unfold Bf.cells; rw [h]
theorem BufAt.put {w w' : World} {B : Nat} {b : Bf} (h : BufAt w B b) (d : List Int) (hd : d.length = b.d.length) (hb : ∀ x ∈ d, 0 ≤ x ∧ x < 256) (hc : Chg (· = b.g) w w') (ho : Obj1 w' b.g (u8s d).toArray 5) : BufAt w' B { b with d := d } :=
  ⟨by rw [Bf.cells_len b d hd]; exact hc.obj h.obj h.ne, fun _ => ho, hb, h.ne, h.nl, h.gl, by rw [show ({ b with d := d } : Bf).d.length = b.d.length from hd]; exact h.sz⟩
def Bf.set (b : Bf) (i v : Int) : Bf := if b.there i 1 = true then { b with d := b.d.set i.toNat v } else b
set_option maxRecDepth 100000 in
set_option maxHeartbeats 4000000 in
theorem bset_any (B : Nat) (b : Bf) (i v : Int) (w : World) (h : BufAt w B b) (hi : i ≤ 4611686018427387904) (hv : 0 ≤ v ∧ v < 256) : Calls Tryz.prog 174 #[.pointer (some ⟨B, 0, none⟩), .int .i64 i, .int .u8 v] w fun e w' =>
      e = .returned (.bool (b.there i 1)) ∧ BufAt w' B (b.set i v) ∧ Chg (· = b.g) w w' := by
  have HT := Hi (bthere_any B b i 1 w h hi)
  have H := Hi h
  unfold Bf.set
  cases ht : b.there i 1 with
  | false =>
    rw [ht] at HT
    rw [if_neg (by decide)]
    clear h ht
    go_enter Tryz.func174, Tryz.ntmps174
    go_wp2_with (go_at_call 227; (with_reducible refine (HT.out).mono ?_); rintro e w1 ⟨rfl, rfl⟩)
    go_ret
    exact ⟨rfl, H.out, Chg.refl _ _⟩
  | true =>
    rw [ht] at HT
    rw [if_pos rfl]
    have hx : b.op = true ∧ 0 ≤ i ∧ i ≤ b.d.length ∧ 1 ≤ (b.d.length : Int) - i := by
      unfold Bf.there at ht
      simp only [Bool.and_eq_true, decide_eq_true_eq] at ht
      exact ⟨ht.1.1.1.1, ht.1.1.1.2, ht.1.2, ht.2⟩
    obtain ⟨ho, h0, h1, h2⟩ := hx
    obtain ⟨i, rfl⟩ := Int.eq_ofNat_of_zero_le h0
    have hil : i < b.d.length := by omega
    have c1 := h.c1 ho
    have hD := h.dat ho
    have cI : w.cell? ⟨b.g, i, none⟩ = some (.int .u8 (b.d[i])) := by rw [hD.cell]; simp [u8s, hil]
    have fI := hD.frozen i
    have FIN := Hi (show BufAt (w.setCell ⟨b.g, i, none⟩ (.int .u8 v)) B { b with d := b.d.set i v } from h.put _ (by rw [List.length_set]) (fun x hx => by
      rcases List.mem_or_eq_of_mem_set hx with hx | rfl
      · exact h.byt x hx
      · exact hv) ((Chg.refl _ w).set _ _ (Or.inl rfl)) (hD.setU i v))
    have CH := Hi ((Chg.refl (· = b.g) w).set ⟨b.g, i, none⟩ (.int .u8 v) (Or.inl rfl))
    obtain ⟨g, hg⟩ : ∃ g, b.g = g := ⟨_, rfl⟩
    obtain ⟨m, hm⟩ : ∃ m, b.d.length = m := ⟨_, rfl⟩
    rw [hg, hm] at c1
    rw [hg] at cI fI FIN CH ⊢
    rw [hm] at hil
    clear h ht ho h0 h1 h2 hD hg hm
    go_enter Tryz.func174, Tryz.ntmps174
    go_wp2_with (go_at_call 227; (with_reducible refine (HT.out).mono ?_); rintro e w1 ⟨rfl, rfl⟩)
    go_ret
    exact ⟨rfl, FIN.out, CH.out⟩
theorem copy_op {P : Program} {ops : Array Oper} {rest : List Oper} {o : Oper} {a : Act} {w w2 : World} {Q : Exit → Act → World → Prop} (hgd : o.guard = none) (d s : Operand) (dT sT : TypeId)
    (ho : o.op = .call { callee := .builtin .copy, args := #[d, s], argTypes := #[dT, sT] }) (x y v : Value) (hd : a.eval d = x) (hs : a.eval s = y) (hrun : ∀ ty, (Builtin.copy_ #[dT, sT] ty #[x, y]).run P w = .ok v w2)
    (h : wpList P ops Q rest (a.put o.dst v) w2) : wpList P ops Q (o :: rest) a w := by
  refine wpList_plain hgd fun K hK => ?_
  unfold Oper.wp
  simp [execOp, ho, resolve, invoke, builtin, hd, hs, hrun, Result.andThen]
  exact hK _ _ h
def bytesI (s : ByteArray) : List Int := s.data.toList.map fun b => (b.toNat : Int)
theorem bytesI_len (s : ByteArray) : (bytesI s).length = s.size := by unfold bytesI; rw [List.length_map]; rfl
theorem bytesI_byt (s : ByteArray) : ∀ x ∈ bytesI s, 0 ≤ x ∧ x < 256 := by
  intro x hx
  obtain ⟨b, _, rfl⟩ := List.mem_map.1 hx
  have := b.toNat_lt
  omega
theorem bytesI_cells (s : ByteArray) : Lib.byteCells s.data.toList = u8s (bytesI s) := by unfold Lib.byteCells u8s bytesI; rw [List.map_map]; rfl
def Bf.put (b : Bf) (i : Int) (s : ByteArray) : Bf := if b.there i s.size = true then { b with d := b.d.take i.toNat ++ (bytesI s ++ b.d.drop (i.toNat + s.size)) } else b
set_option maxRecDepth 100000 in
set_option maxHeartbeats 4000000 in
theorem fput_any (B : Nat) (b : Bf) (i : Int) (s : ByteArray) (w : World) (h : BufAt w B b) (hi : i ≤ 4611686018427387904) (hs : 0 < s.size) (hs2 : s.size ≤ 4611686018427387904) : Calls Tryz.prog 209 #[.pointer (some ⟨B, 0, none⟩), .int .i64 i, .string s] w fun e w' =>
      e = .returned (.bool (b.there i s.size)) ∧ BufAt w' B (b.put i s) ∧ Chg (· = b.g) w w' := by
  have HT := Hi (bthere_any B b i s.size w h hi)
  have H := Hi h
  unfold Bf.put
  cases ht : b.there i s.size with
  | false =>
    rw [ht] at HT
    rw [if_neg (by decide)]
    clear h ht
    go_enter Tryz.func209, Tryz.ntmps209
    go_wp2_with (go_at_call 227; (with_reducible refine (HT.out).mono ?_); rintro e w1 ⟨rfl, rfl⟩)
    go_ret
    exact ⟨rfl, H.out, Chg.refl _ _⟩
  | true =>
    rw [ht] at HT
    rw [if_pos rfl]
    have hx : b.op = true ∧ 0 ≤ i ∧ i ≤ b.d.length ∧ (s.size : Int) ≤ (b.d.length : Int) - i := by
      unfold Bf.there at ht
      simp only [Bool.and_eq_true, decide_eq_true_eq] at ht
      exact ⟨ht.1.1.1.1, ht.1.1.1.2, ht.1.2, ht.2⟩
    obtain ⟨ho, h0, h1, h2⟩ := hx
    obtain ⟨i, rfl⟩ := Int.eq_ofNat_of_zero_le h0
    have c1 := h.c1 ho
    have hD := h.dat ho
    rw [show ((i : Int)).toNat = i from rfl]
    have HCP := Hi (fun ty => Lib.run_copy_row_string (P := Tryz.prog) w 61 9 ty 5 b.g i (b.d.length - i) (b.d.length - i) s (u8s b.d).toArray 5 Tryz.underlying61 (by kernel_rfl) hD (by omega) (by simp [u8s]; omega))
    rw [bytesI_cells] at HCP
    have eN : (u8s b.d).take i ++ u8s (bytesI s) ++ (u8s b.d).drop (i + s.size) = u8s (b.d.take i ++ (bytesI s ++ b.d.drop (i + s.size))) := by unfold u8s; rw [List.map_append, List.map_append, List.map_take, List.map_drop, List.append_assoc]
    have hO := setRow_heap w b.g _ (u8s (b.d.take i ++ (bytesI s ++ b.d.drop (i + s.size)))).toArray 5 _ hD
    have hC : Chg (· = b.g) w (w.setRow b.g (u8s (b.d.take i ++ (bytesI s ++ b.d.drop (i + s.size)))).toArray) := ⟨rfl, rfl, rfl, by simp [World.setRow], fun k hk hn => setRow_other w b.g k _ hn⟩
    have hl : (b.d.take i ++ (bytesI s ++ b.d.drop (i + s.size))).length = b.d.length := by rw [List.length_append, List.length_append, List.length_take, List.length_drop, bytesI_len]; omega
    have FIN := Hi (h.put _ hl (fun x hx => by
      rcases List.mem_append.1 hx with hx | hx
      · exact h.byt x (List.mem_of_mem_take hx)
      · rcases List.mem_append.1 hx with hx | hx
        · exact bytesI_byt s x hx
        · exact h.byt x (List.mem_of_mem_drop hx)) hC hO)
    have CH := Hi hC
    have HCP := Hi (fun ty => (HCP.out ty).trans (by rw [show (u8s b.d).toArray.toList = u8s b.d by simp, eN]))
    obtain ⟨m, hm⟩ : ∃ m, b.d.length = m := ⟨_, rfl⟩
    obtain ⟨w2, hw2⟩ : ∃ w2, w.setRow b.g (u8s (b.d.take i ++ (bytesI s ++ b.d.drop (i + s.size)))).toArray = w2 := ⟨_, rfl⟩
    rw [hw2] at HCP FIN CH
    obtain ⟨g, hg⟩ : ∃ g, b.g = g := ⟨_, rfl⟩
    rw [hg, hm] at c1 HCP
    rw [hg] at CH FIN ⊢
    rw [hm] at h1 h2
    clear h ht ho h0 hD hC hO hl eN hw2 hg hm
    go_enter Tryz.func209, Tryz.ntmps209
    go_wp2_with (first
      | (go_at_call 227; (with_reducible refine (HT.out).mono ?_); rintro e w1 ⟨rfl, rfl⟩)
      | (refine copy_op rfl (.tmp 18) (.tmp 19) 61 9 rfl (.slice (some ⟨g, i, none⟩) (m - i) (m - i)) (.string s) _ rfl rfl HCP.out ?_))
    go_ret
    exact ⟨rfl, FIN.out, CH.out⟩
def Bf.get (b : Bf) (i n : Int) : ByteArray := if b.there i n = true then strOf ((b.d.drop i.toNat).take n.toNat) else ByteArray.empty
theorem part_string {P : Program} {w : World} {g : Nat} {d : List Int} {T : TypeId} (h : Obj1 w g (u8s d).toArray T) (i n c : Nat) (hn : i + n ≤ d.length) (src dst e' : TypeId)
    (hs : P.underlying src = some (.slice e')) (he : P.underlying e' = some (.int .u8)) (hd : P.underlying dst = some .string) : (convert src dst (.slice (some ⟨g, i, none⟩) n c)).run P w = .ok (.string (strOf ((d.drop i).take n))) w := by
  rw [run_convert_bytes_string w src dst e' _ n c hs he hd]
  have hl : ((d.drop i).take n).length = n := by rw [List.length_take, List.length_drop]; omega
  refine run_bytesToString w _ n c ((d.drop i).take n) ?_
  have := run_loadCells_list (P := P) w ⟨g, i, none⟩ (((d.drop i).take n).map (Value.int .u8)) (fun j v hv => by
    rw [Addr.add_mid, h.cell]
    rw [List.getElem?_map] at hv
    have hj : j < n := by
      rcases Nat.lt_or_ge j n with hj | hj
      · exact hj
      · rw [List.getElem?_eq_none (by omega)] at hv; cases hv
    rw [List.getElem?_take, if_pos hj, List.getElem?_drop] at hv
    simp only [u8s, List.getElem?_toArray, List.getElem?_map]
    exact hv)
  rw [List.length_map, hl] at this; exact this
set_option maxRecDepth 100000 in
set_option maxHeartbeats 4000000 in
theorem bget_any (B : Nat) (b : Bf) (i n : Int) (w : World) (h : BufAt w B b) (hi : i ≤ 4611686018427387904) (hnp : 0 < n) : Calls Tryz.prog 252 #[.pointer (some ⟨B, 0, none⟩), .int .i64 i, .int .i64 n] w fun e w' =>
      e = .returned (.tuple #[.string (b.get i n), .bool (b.there i n)]) ∧ w' = w := by
  have HT := Hi (bthere_any B b i n w h hi)
  unfold Bf.get
  cases ht : b.there i n with
  | false =>
    rw [ht] at HT
    rw [if_neg (by decide)]
    clear h ht
    go_enter Tryz.func252, Tryz.ntmps252
    go_wp2_with (go_at_call 227; (with_reducible refine (HT.out).mono ?_); rintro e w1 ⟨rfl, rfl⟩)
    go_ret2
    exact ⟨rfl, rfl⟩
  | true =>
    rw [ht] at HT
    rw [if_pos rfl]
    have hsz := h.sz
    have hx : b.op = true ∧ 0 ≤ i ∧ 0 ≤ n ∧ i ≤ b.d.length ∧ n ≤ (b.d.length : Int) - i := by
      unfold Bf.there at ht
      simp only [Bool.and_eq_true, decide_eq_true_eq] at ht
      exact ⟨ht.1.1.1.1, ht.1.1.1.2, ht.1.1.2, ht.1.2, ht.2⟩
    obtain ⟨ho, h0, hn0, h1, h2⟩ := hx
    obtain ⟨i, rfl⟩ := Int.eq_ofNat_of_zero_le h0
    obtain ⟨n, rfl⟩ := Int.eq_ofNat_of_zero_le hn0
    have c1 := h.c1 ho
    have hin : i + n ≤ b.d.length := by omega
    have hnp2 : 0 < n := by omega
    have him : i < b.d.length := by omega
    obtain ⟨R, hR⟩ : ∃ R, strOf ((b.d.drop i).take n) = R := ⟨_, rfl⟩
    have HR := fun c => part_string (P := Tryz.prog) (h.dat ho) i n c hin 61 9 5 Tryz.underlying61 Tryz.underlying5 Tryz.underlying9
    rw [hR] at HR
    rw [show ((i : Int)).toNat = i from rfl, show ((n : Int)).toNat = n from rfl, hR]
    obtain ⟨m, hm⟩ : ∃ m, b.d.length = m := ⟨_, rfl⟩
    obtain ⟨g, hg⟩ : ∃ g, b.g = g := ⟨_, rfl⟩
    rw [hg, hm] at c1
    rw [hg] at HR
    rw [hm] at h1 h2 hin hsz him
    have hci : m - i ≠ 0 := by omega
    clear h ht ho h0 hn0 hR hg hm
    go_enter Tryz.func252, Tryz.ntmps252
    go_wp2_with (go_at_call 227; (with_reducible refine (HT.out).mono ?_); rintro e w1 ⟨rfl, rfl⟩)
    go_ret2
    exact ⟨rfl, rfl⟩
end Go.Proofs.YtlfbaggcfaenlaaGreat
namespace Go
section
variable {P : Program} {ops : Array Oper} {Q : Exit → Act → World → Prop} {md : Region.Mode} {S : World → Prop} {late : Nat → Bool}
def lateOk (md : Region.Mode) (ops : Array Oper) (late : Nat → Bool) : Bool :=
  (List.range ops.size).all fun j => !late j || (List.range ops.size).all fun i => late i || match ops[j]? with
    | none => true
    | some o => o.after.any fun e => Region.binds md e && e.on == i
def wpAnyT (P : Program) (md : Region.Mode) (ops : Array Oper) (Q : Exit → Act → World → Prop) (S : World → Prop) (late : Nat → Bool) : Nat → Array Bool → Act → World → Prop
  | 0, listed, a, w => Region.ready md ops listed = [] ∧ Q .normal a w
  | fuel + 1, listed, a, w =>
    (Region.ready md ops listed = [] → Q .normal a w) ∧
    ∀ i ∈ Region.ready md ops listed, wpOp P ops Q i (fun a' w' => (late i = false → S w') ∧ wpAnyT P md ops Q S late fuel (listed.setIfInBounds i true) a' w') a w
theorem wpAny_of_T : ∀ (fuel : Nat) (listed : Array Bool) (a : Act) (w : World), wpAnyT P md ops Q S late fuel listed a w → wpAny P md ops Q fuel listed a w
  | 0, _, _, _, h => h
  | fuel + 1, _, _, _, h => ⟨h.1, fun i hi => wpOp_mono (fun a' w' h' => wpAny_of_T fuel _ a' w' h'.2) (h.2 i hi)⟩
theorem wpAnyT_first {i : Nat} {oi : Oper} {v : Value} (hi : ops[i]? = some oi) (hsel : ∀ (j : Nat) (o : Oper) cs b, ops[j]? = some o → o.op ≠ .select cs b)
    (hQ : ∀ c a w, Q (.panic c) (a.put oi.dst v) w → Q (.panic c) a w) (hlt : lateOk md ops late = true) (hli : late i = false) :
    ∀ (fuel : Nat) (listed : Array Bool) (a : Act) (w : World),
      (∀ j oj, ops[j]? = some oj → j ≠ i → listed.getD j true = false → (∀ e ∈ oj.after, Region.binds md e = true → e.on ≠ i) → oi.apart ops oj = true) →
      i ∈ Region.ready md ops listed → YieldsIf P ops S oi v a → S w →
      wpAnyT P md ops Q S late fuel (listed.setIfInBounds i true) (a.put oi.dst v) w → wpAnyT P md ops Q S late (fuel + 1) listed a w := by
  intro fuel
  induction fuel with
  | zero =>
    intro listed a w _ hr hy hS H
    refine ⟨fun h => (by rw [h] at hr; cases hr), fun j hj => ?_⟩
    by_cases hji : j = i
    · subst hji; exact hy.wpOp hi hS ⟨fun _ => hS, H⟩
    · have := ready_mono hj hji
      rw [H.1] at this
      cases this
  | succ fuel ih =>
    intro listed a w hfree hr hy hS H
    refine ⟨fun h => (by rw [h] at hr; cases hr), fun j hj => ?_⟩
    by_cases hji : j = i
    · subst hji; exact hy.wpOp hi hS ⟨fun _ => hS, H⟩
    · have h1 := H.2 j (ready_mono hj hji)
      obtain ⟨hjun, oj, hoj, hall⟩ := mem_ready.1 hj
      have hnot : ∀ e ∈ oj.after, Region.binds md e = true → e.on ≠ i := fun e he hb heq => by
        have h1 := hall e he hb
        have h0 := (mem_ready.1 hr).1
        rw [heq] at h1
        rcases Nat.lt_or_ge i listed.size with h' | h'
        · simp [h'] at h0 h1; rw [h0] at h1; cases h1
        · simp [Array.getElem?_eq_none h'] at h1
      have hjl : late j = false := by
        cases hl : late j with
        | false => rfl
        | true =>
          have hjs : j < ops.size := (Array.getElem?_eq_some_iff.1 hoj).1
          have his : i < ops.size := (Array.getElem?_eq_some_iff.1 hi).1
          unfold lateOk at hlt
          have h2 := List.all_eq_true.1 hlt j (List.mem_range.2 hjs)
          rw [hl, Bool.not_true, Bool.false_or] at h2
          have h3 := List.all_eq_true.1 h2 i (List.mem_range.2 his)
          rw [hli, Bool.false_or, hoj] at h3
          obtain ⟨e, he, h4⟩ := Array.any_eq_true'.1 h3
          rw [Bool.and_eq_true, beq_iff_eq] at h4
          exact absurd h4.2 (hnot e he h4.1)
      have h2 := wpOp_putIf hoj (hfree j oj hoj hji hjun hnot) (fun cs b => hsel i oi cs b hi) (fun cs b => hsel j oj cs b hoj) hQ hy h1
      have hfree' : ∀ k ok, ops[k]? = some ok → k ≠ i → (listed.setIfInBounds j true).getD k true = false →
          (∀ e ∈ ok.after, Region.binds md e = true → e.on ≠ i) → oi.apart ops ok = true := fun k ok hk hki hun hno => by
        refine hfree k ok hk hki ?_ hno
        by_cases hjk : j = k
        · subst hjk; exact hjun
        · rw [getD_set_ne true hjk] at hun; exact hun
      refine wpOp_mono (fun a' w' h3 => ⟨h3.2.1, ih (listed.setIfInBounds j true) a' w' hfree' (ready_mono hr (Ne.symm hji)) h3.1 (h3.2.1 hjl) ?_⟩) h2
      rw [Array.setIfInBounds_comm _ _ hji]
      exact h3.2.2
theorem wpAnyT_take {i : Nat} {oi : Oper} {v : Value} {fuel : Nat} {listed : Array Bool} {a : Act} {w : World} (hi : ops[i]? = some oi)
    (hs : Region.noSelect ops = true) (hf : Region.free md ops listed i = true) (hr : (Region.ready md ops listed).contains i = true) (hlt : lateOk md ops late = true) (hli : late i = false)
    (hQ : ∀ c a w, Q (.panic c) (a.put oi.dst v) w → Q (.panic c) a w) (hy : YieldsIf P ops S oi v a) (hS : S w)
    (h : wpAnyT P md ops Q S late fuel (listed.setIfInBounds i true) (a.put oi.dst v) w) : wpAnyT P md ops Q S late (fuel + 1) listed a w :=
  wpAnyT_first hi (Region.noSelect_spec hs) hQ hlt hli fuel listed a w (Region.free_spec hi hf) (by simpa using hr) hy hS h
theorem wpAnyT_one {i : Nat} {o : Oper} {fuel : Nat} {listed : Array Bool} {a : Act} {w : World} (hr : Region.ready md ops listed = [i]) (ho : ops[i]? = some o) (hl : late i = true)
    (h : ∀ K' : Act → World → Prop, Shut (∀ a w, wpAnyT P md ops Q S late fuel (listed.setIfInBounds i true) a w → K' a w) → if Region.wanted o (yielded ops a.tmps) = true then Oper.wp P o a w K' Q else K' (a.put o.dst undef) w) : wpAnyT P md ops Q S late (fuel + 1) listed a w := by
  refine ⟨fun h0 => (by rw [hr] at h0; cases h0), fun j hj => ?_⟩
  rw [hr, List.mem_singleton] at hj
  subst hj
  exact wpOp_step ho (fun K' hK => h K' (fun a w hW => hK a w ⟨fun h => (by rw [hl] at h; cases h), hW⟩))
theorem wpAnyT_mid {i : Nat} {o : Oper} {fuel : Nat} {listed : Array Bool} {a : Act} {w : World} (hr : Region.ready md ops listed = [i]) (ho : ops[i]? = some o)
    (h : ∀ K' : Act → World → Prop, Shut (∀ a w, S w → wpAnyT P md ops Q S late fuel (listed.setIfInBounds i true) a w → K' a w) → if Region.wanted o (yielded ops a.tmps) = true then Oper.wp P o a w K' Q else K' (a.put o.dst undef) w) : wpAnyT P md ops Q S late (fuel + 1) listed a w := by
  refine ⟨fun h0 => (by rw [hr] at h0; cases h0), fun j hj => ?_⟩
  rw [hr, List.mem_singleton] at hj
  subst hj
  exact wpOp_step ho (fun K' hK => h K' (fun a w hs hW => hK a w ⟨fun _ => hs, hW⟩))
theorem wpAnyT_done {listed : Array Bool} {a : Act} {w : World} (hr : Region.ready md ops listed = []) (h : Q .normal a w) : ∀ fuel, wpAnyT P md ops Q S late fuel listed a w
  | 0 => ⟨hr, h⟩
  | _ + 1 => ⟨fun _ => h, by rw [hr]; simp⟩
theorem wp_region_T (S : World → Prop) (late : Nat → Bool) {id : Nat} {a : Act} {w : World} (hm : P.follows .mixedOrders = true)
    (h : wpAnyT P .any ops Q S late ops.size (Array.replicate ops.size false) a w.drew) : (Code.region id ops true).wp P Q a w :=
  wp_region_any hm (wpAny_of_T _ _ _ _ h)
end
end Go
