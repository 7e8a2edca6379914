/- sniff.Format, walked. -/
import Derived.Test.YtapdgfeekipidaaGreatDoorK1
import Derived.Test.YtapdgfeekipidaaGreatDoorK0
import Derived.WalkKit
import Derived.OrdersHeld
import Derived.Deep.RegionHeld
import Derived.Deep.RegionHeld3
namespace Go.Proofs.YtapdgfeekipidaaGreatDoor
open Go.RowKit
set_option linter.unusedVariables false
set_option linter.unusedSimpArgs false
attribute [local go_sem] Oper.semAt_some
theorem results_1 {P : Program} {fn : Func} {p : Tmp} {ty : TypeId} (h : fn.results = #[.cell p ty]) (tmps : Array Value) (w : World) (b : Nat) (v : Value)
    (hp : tmps.getD p undef = .pointer (some ⟨b, 0, none⟩)) (hl : (loadVar ty ⟨b, 0, none⟩).run P w = .ok v w) : (results fn tmps).run P w = .ok v w := by
  have hp' : tmps[p]?.getD undef = .pointer (some ⟨b, 0, none⟩) := by simpa using hp
  simp [results, h, hp', asAddr, hl]
theorem load_int (w : World) (b : Nat) (x : Int) (h : w.cell? ⟨b, 0, none⟩ = some (.int .i64 x)) : (loadVar 3 ⟨b, 0, none⟩).run Tryz.prog w = .ok (.int .i64 x) w := by
  simp [go_sem, loadVar, h]
theorem firstOf_one {f : Int} {L : List Int} (h : [f] <+: L) : firstOf L = f := by
  obtain ⟨t, rfl⟩ := h
  rfl
set_option maxRecDepth 100000 in
set_option maxHeartbeats 4000000 in
theorem sformat_any (s : ByteArray) (w : World) (hs : s.size ≤ 9223372036854775807) : Calls Tryz.prog 16 #[.string s] w (fun e w' => e = .returned (.int .i64 (firstOf (allTo s 8))) ∧ Below w.heap.size w w') := by
  refine (callsIn_wide (n := 5)).1 ?_
  refine callsIn_of_wp_marks Tryz.func16 rfl trivial ?_ rfl
  simp only [Tryz.ntmps16, List.size_toArray, List.length_cons, List.length_nil, Nat.reduceAdd, Nat.reduceSub, Array.replicate_succ, Array.replicate_zero, List.push_toArray, List.append_toArray, List.nil_append, List.cons_append]
  have bR := Boxed.new w 3 (.int .i64 0)
  have bS := Boxed.new (w.alloc (.cells #[.int .i64 0] 3)) 9 (.string s)
  rw [World.size_alloc] at bS
  have bR2 := bR.alloc (.cells #[.string s] 9)
  have hB0 : Below w.heap.size w ((w.alloc (.cells #[.int .i64 0] 3)).alloc (.cells #[.string s] 9)) := ((Below.refl _ w).alloc (Nat.le_refl _) _).alloc (by simp) _
  gi_wp2_with (refine ⟨trivial, ?_⟩; gi_at_call 18; refine (callsIn_wide.2 (sall_any s _)).mono ?_; rintro e w' ⟨rfl, rfl⟩)
  refine wpIn_rangeFunc_ownF (F := Fence.wide) (n := 5) rfl (by omega) (gf := 32) (lb := #[.pointer (some ⟨w.heap.size + 1, 0, none⟩)]) (by first | rfl | simp) trivial (enters_of Tryz.func32 (by kernel_rfl) rfl)
    (all_stops s hs _ (w.heap.size + 1) _ (by simp) bS.cell) keepB_t (keepB_b (by simp)) (Below.refl _ _) (fun _ => rfl)
    (fun pre W => pre = [] ∧ Boxed W w.heap.size 3 (.int .i64 0) ∧ Below w.heap.size w W)
    (fun c pre W => c = .ret ∧ (∃ f, pre = [f] ∧ Boxed W w.heap.size 3 (.int .i64 f)) ∧ Below w.heap.size w W)
    ?hI ?hIx ⟨rfl, bR2, hB0⟩
    (fun x => { tmps := #[.string s, undef, .pointer (some ⟨w.heap.size, 0, none⟩), .int .i64 x, .string s, .func (.func 32) #[] #[.pointer (some ⟨w.heap.size + 1, 0, none⟩)], .int .i64 x, undef], defers := [] }) ?assign ?body ?done ?stop
  case hI => exact fun s X Y row hs hg hr => ⟨hs.1, boxed_own w.heap.size 3 (fun _ : Unit => .int .i64 0) () X Y row hs.2.1 hg (fun r e => (hr r e).2), ownFrom_below (β := Unit) (Nat.le_refl _) (by simp; omega) () X Y row hs.2.2 hg hr⟩
  case hIx => exact fun c s X Y row hs hg hr => ⟨hs.1, (by obtain ⟨f, e, hb⟩ := hs.2.1; exact ⟨f, e, boxed_own w.heap.size 3 (fun _ : Unit => .int .i64 f) () X Y row hb hg (fun r e => (hr r e).2)⟩), ownFrom_below (β := Unit) (Nat.le_refl _) (by simp; omega) () X Y row hs.2.2 hg hr⟩
  case assign =>
    intro l x W K hK
    gi_wp2
    exact hK
  case body =>
    rintro l pre x W ⟨rfl, hB, hL⟩ _
    have c0 := hB.cell
    have f0 := hB.frozen
    gi_wp2
    exact ⟨KeepsOthers.setCell _ _ _, rfl, ⟨x, rfl, hB.set _⟩, hL.setCell (p := ⟨w.heap.size, 0, none⟩) (Nat.le_refl _) _⟩
  case done =>
    rintro D ys W hD hys ⟨hp, hB, hL⟩ hK
    have c0 := hB.cell
    have f0 := hB.frozen
    gi_wp2
    refine ⟨by simp, .inl ⟨_, _, rfl, run_takeDeferred ((KeepsOthers.setCell _ _ _).same D _ hK rfl), ?_⟩⟩
    have hB2 : Boxed ((W.setCell ⟨w.heap.size, 0, none⟩ (.int .i64 0)).putObj D (Obj.deferred none)) w.heap.size 3 (.int .i64 0) := (hB.set _).kept (grownBy_putObj' _ D _) (fun e => by cases e; simp at hD; omega)
    exact ⟨_, results_1 rfl _ _ w.heap.size _ rfl (load_int _ _ _ hB2.cell), by rw [← hys, hp]; rfl, (hL.setCell (p := ⟨w.heap.size, 0, none⟩) (Nat.le_refl _) _).trans (belowK_b (w := w) (Nat.le_refl _) _ D _ _ (by simp at hD; omega) ((KeepsOthers.setCell _ _ _).same D _ hK rfl) rfl rfl)⟩
  case stop =>
    rintro D c pre W hD ⟨hp, hne⟩ ⟨rfl, ⟨f, rfl, hB⟩, hL⟩ hK
    gi_wp2
    refine ⟨by simp, .inl ⟨_, _, rfl, run_takeDeferred hK, ?_⟩⟩
    have hB2 : Boxed (W.putObj D (Obj.deferred none)) w.heap.size 3 (.int .i64 f) := hB.kept (grownBy_putObj' _ D _) (fun e => by cases e; simp at hD; omega)
    exact ⟨_, results_1 rfl _ _ w.heap.size _ rfl (load_int _ _ _ hB2.cell), by rw [firstOf_one hp], hL.trans (belowK_b (w := w) (Nat.le_refl _) W D _ _ (by simp at hD; omega) hK rfl rfl)⟩
end Go.Proofs.YtapdgfeekipidaaGreatDoor
namespace Go.Proofs.YtapdgfeekipidaaGreatDoor
open Go.RowKit Go.Maps
set_option linter.unusedVariables false
set_option linter.unusedSimpArgs false
theorem rdD_has0 : Maps.has rdD (.int .i64 0) = false := by kernel_rfl
set_option maxRecDepth 100000 in
set_option maxHeartbeats 4000000 in
theorem of_empty (w : World) : Calls Tryz.prog 9 #[.string ⟨#[]⟩] w fun e w' => e = .returned (.tuple #[.agg (List.toArray [.int .i64 0, .int .i64 0, .int .i64 0, .int .i64 0, .int .i64 0, .int .i64 0]), .agg (List.toArray [.int .i64 3, .int .i64 0, .int .i64 0])]) ∧ Below w.heap.size w w' := by
  have H1 := Hi (fun w0 => (show Calls Tryz.prog 16 #[.string ⟨#[]⟩] w0 (fun e w' => e = .returned (.int .i64 0) ∧ Below w0.heap.size w0 w') from (sformat_any ⟨#[]⟩ w0 (by decide +kernel)).mono fun e w' hh => ⟨hh.1.trans (by rw [show firstOf (allTo ⟨#[]⟩ 8) = 0 by decide +kernel]), hh.2⟩))
  have H2 := Hi (fun w0 => readers_any w0)
  have O2 := Hi ((obj1_new w #[.int .i64 0, .int .i64 0, .int .i64 0, .int .i64 0, .int .i64 0, .int .i64 0] 31).alloc (.cells #[.int .i64 0, .int .i64 0, .int .i64 0] 33))
  have O3 := Hi (obj1_new (w.alloc (.cells #[.int .i64 0, .int .i64 0, .int .i64 0, .int .i64 0, .int .i64 0, .int .i64 0] 31)) #[.int .i64 0, .int .i64 0, .int .i64 0] 33)
  have BL := Hi (((Below.refl w.heap.size w).alloc (Nat.le_refl _) (.cells #[.int .i64 0, .int .i64 0, .int .i64 0, .int .i64 0, .int .i64 0, .int .i64 0] 31)).alloc (by simp) (.cells #[.int .i64 0, .int .i64 0, .int .i64 0] 33))
  obtain ⟨d, hd⟩ : ∃ d, w.heap.size = d := ⟨_, rfl⟩
  rw [show (w.alloc (.cells #[.int .i64 0, .int .i64 0, .int .i64 0, .int .i64 0, .int .i64 0, .int .i64 0] 31)).heap.size = d + 1 by rw [← hd]; simp] at O3
  rw [hd] at O2
  have HDe := Hi hd
  go_enter Tryz.func9, Tryz.ntmps9
  go_upto_region 1 with (fail)
  clear hd
  generalize World.alloc (World.alloc _ _) _ = wr at O2 O3 BL ⊢
  go_upto_region 3 with (first
    | ((go_at_call 16; (with_reducible refine (H1.out _).mono ?_); rintro e w3 ⟨rfl, hb⟩); have O2 := Hi (O2.out.below hb O2.out.lt); have O3 := Hi (O3.out.below hb O3.out.lt); have BL := Hi (bthen hb BL.out BL.out.size); clear hb)
    | ((go_at_call 19; (with_reducible refine (H2.out _).mono ?_); rintro e w4 ⟨rfl, hown, hb⟩); have O2 := Hi (O2.out.below hb O2.out.lt); have O3 := Hi (O3.out.below hb O3.out.lt); have BL := Hi (bthen hb BL.out BL.out.size); clear hb)
    | (at_lookup; refine wpList_lookup_own_ok _ rfl _ _ 49 rfl 3 47 lawI Tryz.underlying49 fnElem (zeroF _) (.lit (.int .i64 (-1))) [] rfl _ _ _ rfl hown _ _ rfl (keyOf_int_mk Tryz.underlying3 (by decide)) ?_; intro v ps hv; rw [rdD_has0]; clear hv))
  try clear hown
  go_wp2_with (first
    | (refine store_o rfl 31 6 _ _ rfl d [.int .i64 0, .int .i64 0, .int .i64 0, .int .i64 0, .int .i64 0, .int .i64 0] rfl rfl (by kernel_rfl) (by kernel_rfl) (by kernel_rfl) O2.out (by first | rfl | simp) ?_; intro ws hst hO; have O2 := Hi hO; have O3 := Hi (hst.oth O3.out (by omega)); have BL := Hi (hst.below BL.out (by have := HDe.out; omega)); clear hst hO)
    | (refine store_o rfl 33 3 _ _ rfl (d + 1) [.int .i64 3, .int .i64 0, .int .i64 0] rfl rfl (by kernel_rfl) (by kernel_rfl) (by kernel_rfl) O3.out (by first | rfl | simp) ?_; intro ws hst hO; have O3 := Hi hO; have O2 := Hi (hst.oth O2.out (by omega)); have BL := Hi (hst.below BL.out (by have := HDe.out; omega)); clear hst hO))
  refine bodyPost_ret (v := .tuple #[.agg (List.toArray [.int .i64 0, .int .i64 0, .int .i64 0, .int .i64 0, .int .i64 0, .int .i64 0]), .agg (List.toArray [.int .i64 3, .int .i64 0, .int .i64 0])]) ?_ rfl ⟨rfl, BL.out⟩
  exact results_cc Tryz.results9 _ _ _ _ [.int .i64 0, .int .i64 0, .int .i64 0, .int .i64 0, .int .i64 0, .int .i64 0] [.int .i64 3, .int .i64 0, .int .i64 0] _ _ rfl O2.out.range0 Tryz.underlying31 rfl (by kernel_rfl) rfl O3.out.range0 Tryz.underlying33 rfl (by kernel_rfl)
end Go.Proofs.YtapdgfeekipidaaGreatDoor
namespace Go.Proofs.YtapdgfeekipidaaGreatDoor
open Go.RowKit
set_option linter.unusedVariables false
set_option linter.unusedSimpArgs false
theorem has0 : ∀ k, k < 8 → hasB ⟨#[]⟩ (ordL.getD k 0) = false := by decide +kernel
set_option maxRecDepth 100000 in
set_option maxHeartbeats 4000000 in
theorem all0_in (n : Nat) (l B : Nat) (J Jx : List Int → World → Prop) (W : World) (hBW : B < W.heap.size) (hJ : AbidesFrom W.heap.size J)
    (hb : W.cell? ⟨B, 0, none⟩ = some (.string ⟨#[]⟩)) (h0 : J [] W) :
    CallsIn Fence.wide n Tryz.prog 32 #[.func (.yield l) #[] #[], .pointer (some ⟨B, 0, none⟩)] W fun e W' => (∃ v, e = .returned v) ∧
      ((∃ ys, ys = ([] : List Int) ∧ J ys W') ∨ (∃ pre, False ∧ Jx pre W')) := by
  have HO := Hi (fun w0 => callsIn_wide (n := n - 1).2 (order_any w0))
  have HH := Hi (fun f w0 => callsIn_wide (n := n - 1).2 (has_any ⟨#[]⟩ f w0 (by decide)))
  obtain ⟨s, hs⟩ : ∃ s : ByteArray, ⟨#[]⟩ = s := ⟨_, rfl⟩
  have H0 := Hi has0
  rw [hs] at HH H0 hb
  clear hs
  refine callsIn_of_wp Tryz.func32 rfl trivial ?_ rfl
  simp only [Tryz.ntmps32, List.size_toArray, List.length_cons, List.length_nil, Nat.reduceAdd, Nat.reduceSub, Array.replicate_succ, Array.replicate_zero, List.push_toArray, List.append_toArray, List.nil_append, List.cons_append]
  gi_wp2_with (refine ⟨trivial, (fun h => absurd h (by decide)), ?_⟩; gi_at_call 33; refine (HO.out _).mono ?_; rintro e w1 ⟨rfl, hb1⟩)
  have hc1 : w1.cell? ⟨B, 0, none⟩ = some (.string s) := (hb1.cell (p := ⟨B, 0, none⟩) hBW).trans hb
  have J1 : J [] w1 := hJ [] W w1 none h0 (below_grown hb1) (fun r e => by cases e)
  have z1 : W.heap.size ≤ w1.heap.size := hb1.size
  clear hb1 hb h0
  gi_loopw [4, 6] (fun q4 c wr => ∃ k : Nat, k ≤ 8 ∧ c = .int .i64 k ∧ J [] wr ∧ wr.cell? ⟨B, 0, none⟩ = some (.string s) ∧ B < wr.heap.size) (fun _ c _ => 8 - (intOf c).toNat)
  case atStart => exact ⟨0, by omega, rfl, J1, hc1, Nat.lt_of_lt_of_le hBW z1⟩
  case round =>
    obtain ⟨k, hk, rfl, hj, hc, hz⟩ := hrel
    by_cases hlt : k < 8
    rotate_left
    · have hge : 8 ≤ k := by omega
      obtain ⟨M, hM⟩ : ∃ M : List Int, [] = M := ⟨_, rfl⟩
      have EM := Hi hM
      rw [hM] at hj
      clear hM
      gi_wp2
      go_end0
      exact ⟨⟨_, rfl⟩, .inl ⟨M, EM.out.symm, hj⟩⟩
    · have hge : ¬ 8 ≤ k := by omega
      have hhb := H0.out k hlt
      obtain ⟨f, hf⟩ : ∃ f, ordL.getD k 0 = f := ⟨_, rfl⟩
      rw [hf] at hhb
      have HF := Hi (fun w0 => HH.out f w0)
      rw [hhb] at HF
      have ck := fun w0 => ord_ix k hlt w0
      rw [hf] at ck
      clear hf hhb
      gi_wp2_with (refine ⟨trivial, (fun h => absurd h (by decide)), ?_⟩; gi_at_call 34; refine (HF.out _).mono ?_; rintro e w4 ⟨rfl, hb4⟩; have hj := hJ _ _ _ none hj (below_grown hb4) (fun r e => by cases e); have hc := (hb4.cell (p := ⟨B, 0, none⟩) hz).trans hc; have hz := Nat.lt_of_lt_of_le hz hb4.size; clear hb4)
      all_goals (try (refine ⟨fun _ h => (by cases h), ?_⟩))
      gi_wp2
      go_roundw
      case rel => exact ⟨k + 1, by omega, by go_num, hj, hc, hz⟩
      case measure => simp [intOf]; omega
theorem all0_stops (n : Nat) (B : Nat) (w : World) (hB : B < w.heap.size) (hb : w.cell? ⟨B, 0, none⟩ = some (.string ⟨#[]⟩)) :
    SeqStopsK Fence.wide n Tryz.prog 32 #[.pointer (some ⟨B, 0, none⟩)] (fun x : Int => #[Value.int .i64 x]) (KeepB B) (fun ys => ys = []) (fun _ => False) 0 w := fun l J Jx W hW hJ hJx hY h0 =>
  all0_in n l B J Jx W (Nat.lt_of_lt_of_le hB hW.size) hJ ((hW.cell (p := ⟨B, 0, none⟩) hB).trans hb) h0
end Go.Proofs.YtapdgfeekipidaaGreatDoor
namespace Go
section
variable {P : Program} {ops : Array Oper} {Q : Exit → Act → World → Prop} {md : Region.Mode} {S : World → Prop}
def CallsIf (P : Program) (ops : Array Oper) (S : World → Prop) (o : Oper) (v : Value) (a : Act) : Prop :=
  Region.wanted o (yielded ops a.tmps) = true ∧ ∀ w, S w → ∃ f args, (execOp a.eval o).run P w = .ok (.enter f args) w ∧ Calls P f args w (fun e w' => e = .returned v ∧ w' = w)
theorem CallsIf.wpOp {i : Nat} {o : Oper} {v : Value} {a : Act} (hi : ops[i]? = some o) (hy : CallsIf P ops S o v a)
    {K : Act → World → Prop} {w : World} (hS : S w) (h : K (a.put o.dst v) w) : wpOp P ops Q i K a w := by
  obtain ⟨hw, hv⟩ := hy
  obtain ⟨f, args, hr, hc⟩ := hv w hS
  unfold Go.wpOp
  simp only [hi, hw, if_true, Oper.wp, hr, Oper.upon]
  refine .inl (Calls.mono hc ?_)
  rintro e w' ⟨rfl, rfl⟩
  exact h
theorem CallsIf.of_same {o : Oper} {v : Value} {a a' : Act} (hy : CallsIf P ops S o v a) (he : execOp a'.eval o = execOp a.eval o)
    (hw : Region.wanted o (yielded ops a'.tmps) = Region.wanted o (yielded ops a.tmps)) : CallsIf P ops S o v a' := by
  unfold CallsIf at *
  rw [he, hw]
  exact hy
theorem wpOp_putC {j : Nat} {oi oj : Oper} {v : Value} (hj : ops[j]? = some oj) (hap : oi.apart ops oj = true)
    (hsi : ∀ cs b, oi.op ≠ .select cs b) (hsj : ∀ cs b, oj.op ≠ .select cs b)
    (hQ : ∀ c a w, Q (.panic c) (a.put oi.dst v) w → Q (.panic c) a w) {K : Act → World → Prop} {a : Act} {w : World}
    (hy : CallsIf P ops S oi v a) (h : wpOp P ops Q j K (a.put oi.dst v) w) :
    wpOp P ops Q j (fun a' w' => CallsIf P ops S oi v a' ∧ K (a'.put oi.dst v) w') a w := by
  obtain ⟨h1, h2, h3⟩ := Oper.apart_spec hap
  have keep : ∀ (a : Act), CallsIf P ops S oi v a → ∀ u, CallsIf P ops S oi v (a.put oj.dst u) := fun a hy u =>
    hy.of_same (execOp_put oi hsi a oj.dst u h3) (wanted_put oi a oj.dst u h3)
  have keepD : ∀ d, CallsIf P ops S oi v { a with defers := d :: a.defers } := fun d => hy.of_same rfl rfl
  unfold wpOp at *
  simp only [hj] at *
  rw [wanted_put oj a oi.dst v h1] at h
  split
  · rename_i hw
    simp only [hw, if_true] at h
    rcases h with h | ⟨hasks, hlets⟩
    case inr => exact .inr ⟨by unfold Oper.asks at *; rw [execOp_put oj hsj a oi.dst v h1] at hasks; exact hasks, hlets⟩
    refine .inl ?_
    unfold Oper.wp at *
    rw [execOp_put oj hsj a oi.dst v h1] at h
    generalize (execOp a.eval oj).run P w = r at *
    cases r with
    | ok n w' =>
      cases n <;> simp only [Oper.upon] at h ⊢
      case value u => exact ⟨keep a hy u, by rw [← Act.put_comm a v u h2]; exact h⟩
      case skip => exact ⟨keep a hy _, by rw [← Act.put_comm a v undef h2]; exact h⟩
      case defer d =>
        refine ⟨keep _ (keepD d) _, ?_⟩
        rw [← Act.put_comm _ v undef h2, ← Act.put_defers]
        exact h
      case enter f args =>
        refine Calls.mono h fun e w'' he => ?_
        cases e with
        | returned u => exact ⟨keep a hy u, by rw [← Act.put_comm a v u h2]; exact he⟩
        | panicked c => exact hQ _ _ _ he
        | outgrown => exact he
      case row row args => exact Rows.mono h fun u w'' he => ⟨keep a hy u, by rw [← Act.put_comm a v u h2]; exact he⟩
    | halt x w' =>
      cases x <;> simp only [Oper.upon] at h ⊢
      case panic u => exact hQ _ _ _ h
  · rename_i hw
    simp only [hw] at h
    exact ⟨keep a hy _, by rw [← Act.put_comm a v undef h2]; exact h⟩
theorem wpAnyH_firstC {i : Nat} {oi : Oper} {v : Value} (hi : ops[i]? = some oi) (hsel : ∀ (j : Nat) (o : Oper) cs b, ops[j]? = some o → o.op ≠ .select cs b)
    (hQ : ∀ c a w, Q (.panic c) (a.put oi.dst v) w → Q (.panic c) a w) :
    ∀ (fuel : Nat) (listed : Array Bool) (a : Act) (w : World),
      (∀ j oj, ops[j]? = some oj → j ≠ i → listed.getD j true = false → (∀ e ∈ oj.after, Region.binds md e = true → e.on ≠ i) → oi.apart ops oj = true) →
      i ∈ Region.ready md ops listed → CallsIf P ops S oi v a → S w →
      wpAnyH P md ops Q S fuel (listed.setIfInBounds i true) (a.put oi.dst v) w → wpAnyH P md ops Q S (fuel + 1) listed a w := by
  intro fuel
  induction fuel with
  | zero =>
    intro listed a w _ hr hy hS H
    refine ⟨fun h => (by rw [h] at hr; cases hr), fun j hj => ?_⟩
    by_cases hji : j = i
    · subst hji; exact hy.wpOp hi hS ⟨hS, H⟩
    · have := ready_mono hj hji
      rw [H.1] at this
      cases this
  | succ fuel ih =>
    intro listed a w hfree hr hy hS H
    refine ⟨fun h => (by rw [h] at hr; cases hr), fun j hj => ?_⟩
    by_cases hji : j = i
    · subst hji; exact hy.wpOp hi hS ⟨hS, H⟩
    · have h1 := H.2 j (ready_mono hj hji)
      obtain ⟨hjun, oj, hoj, hall⟩ := mem_ready.1 hj
      have hnot : ∀ e ∈ oj.after, Region.binds md e = true → e.on ≠ i := fun e he hb heq => by
        have h1 := hall e he hb
        have h0 := (mem_ready.1 hr).1
        rw [heq] at h1
        rcases Nat.lt_or_ge i listed.size with h' | h'
        · simp [h'] at h0 h1; rw [h0] at h1; cases h1
        · simp [Array.getElem?_eq_none h'] at h1
      have h2 := wpOp_putC hoj (hfree j oj hoj hji hjun hnot) (fun cs b => hsel i oi cs b hi) (fun cs b => hsel j oj cs b hoj) hQ hy h1
      have hfree' : ∀ k ok, ops[k]? = some ok → k ≠ i → (listed.setIfInBounds j true).getD k true = false →
          (∀ e ∈ ok.after, Region.binds md e = true → e.on ≠ i) → oi.apart ops ok = true := fun k ok hk hki hun hno => by
        refine hfree k ok hk hki ?_ hno
        by_cases hjk : j = k
        · subst hjk; exact hjun
        · rw [getD_set_ne true hjk] at hun; exact hun
      refine wpOp_mono (fun a' w' h3 => ⟨h3.2.1, ih (listed.setIfInBounds j true) a' w' hfree' (ready_mono hr (Ne.symm hji)) h3.1 h3.2.1 ?_⟩) h2
      rw [Array.setIfInBounds_comm _ _ hji]
      exact h3.2.2
end
end Go
namespace Go
section
variable {P : Program} {ops : Array Oper} {Q : Exit → Act → World → Prop} {md : Region.Mode} {S : World → Prop}
theorem wpAnyH_call2 {i : Nat} {oi : Oper} {v : Value} {fuel : Nat} {listed : Array Bool} {a : Act} {w : World} (hi : ops[i]? = some oi)
    (hs : Region.noSelect ops = true) (hf : Region.free md ops listed i = true) (hr : (Region.ready md ops listed).contains i = true)
    (hQ : ∀ c a w, Q (.panic c) (a.put oi.dst v) w → Q (.panic c) a w) (hy : YieldsIf P ops S oi v a ∨ CallsIf P ops S oi v a) (hS : S w)
    (h : wpAnyH P md ops Q S fuel (listed.setIfInBounds i true) (a.put oi.dst v) w) : wpAnyH P md ops Q S (fuel + 1) listed a w := by
  rcases hy with hy | hy
  · exact wpAnyH_take hi hs hf hr hQ hy hS h
  · exact wpAnyH_firstC hi (Region.noSelect_spec hs) hQ fuel listed a w (Region.free_spec hi hf) (by simpa using hr) hy hS h
end
end Go
