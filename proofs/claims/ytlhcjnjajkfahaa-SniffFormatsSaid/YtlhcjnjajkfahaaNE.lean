/- sniff.Format, walked. -/
import Derived.Test.YtlhcjnjajkfahaaND
namespace Go.Proofs.Ytlhcjnjajkfahaa
open Go.RowKit
set_option linter.unusedVariables false
set_option linter.unusedSimpArgs false
attribute [local go_sem] Oper.semAt_some
theorem results_1 {P : Program} {fn : Func} {p : Tmp} {ty : TypeId} (h : fn.results = #[.cell p ty]) (tmps : Array Value) (w : World) (b : Nat) (v : Value)
    (hp : tmps.getD p undef = .pointer (some ⟨b, 0, none⟩)) (hl : (loadVar ty ⟨b, 0, none⟩).run P w = .ok v w) : (results fn tmps).run P w = .ok v w := by
  have hp' : tmps[p]?.getD undef = .pointer (some ⟨b, 0, none⟩) := by simpa using hp
  simp [results, h, hp', asAddr, hl]
theorem load_int (w : World) (b : Nat) (x : Int) (h : w.cell? ⟨b, 0, none⟩ = some (.int .i64 x)) : (loadVar 3 ⟨b, 0, none⟩).run Try.prog w = .ok (.int .i64 x) w := by
  simp [go_sem, loadVar, h]
theorem firstOf_one {f : Int} {L : List Int} (h : [f] <+: L) : firstOf L = f := by
  obtain ⟨t, rfl⟩ := h
  rfl
set_option maxRecDepth 100000 in
set_option maxHeartbeats 4000000 in
theorem sformat_any (s : ByteArray) (w : World) (hs : s.size ≤ 9223372036854775807) : Calls Try.prog 22 #[.string s] w (fun e w' => e = .returned (.int .i64 (firstOf (allTo s 8))) ∧ Below w.heap.size w w') := by
  refine (callsIn_wide (n := 5)).1 ?_
  refine callsIn_of_wp_marks Try.func22 rfl trivial ?_ rfl
  simp only [Try.ntmps22, List.size_toArray, List.length_cons, List.length_nil, Nat.reduceAdd, Nat.reduceSub, Array.replicate_succ, Array.replicate_zero, List.push_toArray, List.append_toArray, List.nil_append, List.cons_append]
  have bR := Boxed.new w 3 (.int .i64 0)
  have bS := Boxed.new (w.alloc (.cells #[.int .i64 0] 3)) 9 (.string s)
  rw [World.size_alloc] at bS
  have bR2 := bR.alloc (.cells #[.string s] 9)
  have hB0 : Below w.heap.size w ((w.alloc (.cells #[.int .i64 0] 3)).alloc (.cells #[.string s] 9)) := ((Below.refl _ w).alloc (Nat.le_refl _) _).alloc (by simp) _
  gi_wp2_with (refine ⟨trivial, ?_⟩; gi_at_call 20; refine (callsIn_wide.2 (sall_any s _)).mono ?_; rintro e w' ⟨rfl, rfl⟩)
  refine wpIn_rangeFunc_ownF (F := Fence.wide) (n := 5) rfl (by omega) (gf := 51) (lb := #[.pointer (some ⟨w.heap.size + 1, 0, none⟩)]) (by first | rfl | simp) trivial (enters_of Try.func51 (by kernel_rfl) rfl)
    (all_stops s hs _ (w.heap.size + 1) _ (by simp) bS.cell) keepB_t (keepB_b (by simp)) (Below.refl _ _) (fun _ => rfl)
    (fun pre W => pre = [] ∧ Boxed W w.heap.size 3 (.int .i64 0) ∧ Below w.heap.size w W)
    (fun c pre W => c = .ret ∧ (∃ f, pre = [f] ∧ Boxed W w.heap.size 3 (.int .i64 f)) ∧ Below w.heap.size w W)
    ?hI ?hIx ⟨rfl, bR2, hB0⟩
    (fun x => { tmps := #[.string s, undef, .pointer (some ⟨w.heap.size, 0, none⟩), .int .i64 x, .string s, .func (.func 51) #[] #[.pointer (some ⟨w.heap.size + 1, 0, none⟩)], .int .i64 x, undef], defers := [] }) ?assign ?body ?done ?stop
  case hI => exact fun s X Y row hs hg hr => ⟨hs.1, boxed_own w.heap.size 3 (fun _ : Unit => .int .i64 0) () X Y row hs.2.1 hg (fun r e => (hr r e).2), ownFrom_below (β := Unit) (Nat.le_refl _) (by simp; omega) () X Y row hs.2.2 hg hr⟩
  case hIx => exact fun c s X Y row hs hg hr => ⟨hs.1, (by obtain ⟨f, e, hb⟩ := hs.2.1; exact ⟨f, e, boxed_own w.heap.size 3 (fun _ : Unit => .int .i64 f) () X Y row hb hg (fun r e => (hr r e).2)⟩), ownFrom_below (β := Unit) (Nat.le_refl _) (by simp; omega) () X Y row hs.2.2 hg hr⟩
  case assign =>
    intro l x W K hK
    gi_wp2
    exact hK
  case body =>
    rintro l pre x W ⟨rfl, hB, hL⟩ _
    have c0 := hB.cell
    have f0 := hB.frozen
    gi_wp2
    exact ⟨KeepsOthers.setCell _ _ _, rfl, ⟨x, rfl, hB.set _⟩, hL.setCell (p := ⟨w.heap.size, 0, none⟩) (Nat.le_refl _) _⟩
  case done =>
    rintro D ys W hD hys ⟨hp, hB, hL⟩ hK
    have c0 := hB.cell
    have f0 := hB.frozen
    gi_wp2
    refine ⟨by simp, .inl ⟨_, _, rfl, run_takeDeferred ((KeepsOthers.setCell _ _ _).same D _ hK rfl), ?_⟩⟩
    have hB2 : Boxed ((W.setCell ⟨w.heap.size, 0, none⟩ (.int .i64 0)).putObj D (Obj.deferred none)) w.heap.size 3 (.int .i64 0) := (hB.set _).kept (grownBy_putObj' _ D _) (fun e => by cases e; simp at hD; omega)
    exact ⟨_, results_1 rfl _ _ w.heap.size _ rfl (load_int _ _ _ hB2.cell), by rw [← hys, hp]; rfl, (hL.setCell (p := ⟨w.heap.size, 0, none⟩) (Nat.le_refl _) _).trans (belowK_b (w := w) (Nat.le_refl _) _ D _ _ (by simp at hD; omega) ((KeepsOthers.setCell _ _ _).same D _ hK rfl) rfl rfl)⟩
  case stop =>
    rintro D c pre W hD ⟨hp, hne⟩ ⟨rfl, ⟨f, rfl, hB⟩, hL⟩ hK
    gi_wp2
    refine ⟨by simp, .inl ⟨_, _, rfl, run_takeDeferred hK, ?_⟩⟩
    have hB2 : Boxed (W.putObj D (Obj.deferred none)) w.heap.size 3 (.int .i64 f) := hB.kept (grownBy_putObj' _ D _) (fun e => by cases e; simp at hD; omega)
    exact ⟨_, results_1 rfl _ _ w.heap.size _ rfl (load_int _ _ _ hB2.cell), by rw [firstOf_one hp], hL.trans (belowK_b (w := w) (Nat.le_refl _) W D _ _ (by simp at hD; omega) hK rfl rfl)⟩
end Go.Proofs.Ytlhcjnjajkfahaa
