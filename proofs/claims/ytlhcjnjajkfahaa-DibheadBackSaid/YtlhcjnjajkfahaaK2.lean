/- The ledger, object by object: its first refusal, its counts. -/
import Derived.Test.YtlhcjnjajkfahaaK1
namespace Go.Proofs.Ytlhcjnjajkfahaa
open Go.RowKit
set_option linter.unusedVariables false
theorem refuse1 (L Rb Ab Lb : Nat) (r a : Int) (x11 x12 x7 : Value) (w : World) (h11 : w.cell? ⟨L, 11, none⟩ = some x11) (h12 : w.cell? ⟨L, 12, none⟩ = some x12) (h7 : w.cell? ⟨L, 7, none⟩ = some x7)
    (z11 : w.frozen? ⟨L, 11, none⟩ = false) (z12 : w.frozen? ⟨L, 12, none⟩ = false) (z7 : w.frozen? ⟨L, 7, none⟩ = false)
    (hr : w.cell? ⟨Rb, 0, none⟩ = some (.int .i64 r)) (ha : w.cell? ⟨Ab, 0, none⟩ = some (.int .i64 a)) (hl : w.cell? ⟨Lb, 0, none⟩ = some (.pointer (some ⟨L, 0, none⟩))) (nr : ¬ Rb = L) (na : ¬ Ab = L) (nl : ¬ Lb = L) :
    Calls Try.prog 132 #[.pointer (some ⟨Rb, 0, none⟩), .pointer (some ⟨Ab, 0, none⟩), .pointer (some ⟨Lb, 0, none⟩)] w fun e w' =>
      e = .returned (.tuple #[]) ∧ ((w.setCell ⟨L, 11, none⟩ (.int .i64 r)).setCell ⟨L, 12, none⟩ (.int .i64 a)).drew.setCell ⟨L, 7, none⟩ (.int .u32 1) = w' := by
  have nr' : ¬ L = Rb := fun h => nr h.symm
  have na' : ¬ L = Ab := fun h => na h.symm
  have nl' : ¬ L = Lb := fun h => nl h.symm
  have hl2 : ((w.setCell ⟨L, 11, none⟩ (.int .i64 r)).setCell ⟨L, 12, none⟩ (.int .i64 a)).cell? ⟨Lb, 0, none⟩ = some (.pointer (some ⟨L, 0, none⟩)) := by
    rw [World.cell?_setCell_other _ _ _ _ (fun h => nl' (congrArg Addr.block h)), World.cell?_setCell_other _ _ _ _ (fun h => nl' (congrArg Addr.block h))]; exact hl
  have h72 : ((w.setCell ⟨L, 11, none⟩ (.int .i64 r)).setCell ⟨L, 12, none⟩ (.int .i64 a)).cell? ⟨L, 7, none⟩ = some x7 := by
    rw [World.cell?_setCell_other _ _ _ _ (by simp), World.cell?_setCell_other _ _ _ _ (by simp)]; exact h7
  go_enter Try.func132, Try.ntmps132
  go_wp2_with (go_at_call 133; (with_reducible refine (bstore _ _ _ _ h72 (by simp [z7])).mono ?_); rintro e w1 ⟨rfl, rfl⟩)
  go_end0
  exact ⟨rfl, rfl⟩
theorem obj_other {w : World} {L b i o : Nat} {v x : Value} (h : w.cell? ⟨b, o, none⟩ = some x) (hn : ¬ b = L) : (w.setCell ⟨L, i, none⟩ v).cell? ⟨b, o, none⟩ = some x := by
  rw [World.cell?_setCell_other _ _ _ _ (fun h => hn (congrArg Addr.block h).symm)]; exact h
set_option maxRecDepth 100000 in
set_option maxHeartbeats 1600000 in
theorem slow_once (L Rb Ab Lb : Nat) (r a : Int) (b0 b1 b2 b3 b4 b5 b6 b10 b11 b12 : Value) (T : TypeId) (w : World)
    (h : Obj1 w L #[b0, b1, b2, b3, b4, b5, b6, .int .u32 0, .int .u32 0, .int .i32 0, b10, b11, b12] T)
    (hr : w.cell? ⟨Rb, 0, none⟩ = some (.int .i64 r)) (ha : w.cell? ⟨Ab, 0, none⟩ = some (.int .i64 a)) (hl : w.cell? ⟨Lb, 0, none⟩ = some (.pointer (some ⟨L, 0, none⟩))) (nr : ¬ Rb = L) (na : ¬ Ab = L) (nl : ¬ Lb = L) :
    Calls Try.prog 135 #[.pointer (some ⟨L, 8, none⟩), .func (.func 132) #[] #[.pointer (some ⟨Rb, 0, none⟩), .pointer (some ⟨Ab, 0, none⟩), .pointer (some ⟨Lb, 0, none⟩)]] w fun e w' =>
      e = .returned (.tuple #[]) ∧ (((((w.setCell ⟨L, 9, none⟩ (.int .i32 1)).setCell ⟨L, 11, none⟩ (.int .i64 r)).setCell ⟨L, 12, none⟩ (.int .i64 a)).drew.setCell ⟨L, 7, none⟩ (.int .u32 1)).drew.setCell ⟨L, 8, none⟩ (.int .u32 1)).setCell ⟨L, 9, none⟩ (.int .i32 0) = w' := by
  have h1 := h.set 9 (.int .i32 1)
  have h2 := ((h1.set 11 (.int .i64 r)).set 12 (.int .i64 a)).drew.set 7 (.int .u32 1)
  have h3 := h2.drew.set 8 (.int .u32 1)
  have H := Lib.hid h
  have H1 := Lib.hid h1
  have H2 := Lib.hid h2
  have H3 := Lib.hid h3
  have hnot : ∀ (x : Bool) (w : World), (Op.unary .not (.bool x)).run Try.prog w = .ok (.bool (!x)) w := fun _ _ => rfl
  have HL := Lib.hid (lock_free L 9 w ((h.cell 9).trans rfl) (h.frozen 9))
  have HB := Lib.hid (bload_f L 8 _ ((h1.cell 8).trans rfl))
  have HC := Lib.hid (refuse1 L Rb Ab Lb r a b11 b12 (.int .u32 0) _ ((h1.cell 11).trans rfl) ((h1.cell 12).trans rfl) ((h1.cell 7).trans rfl) (h1.frozen 11) (h1.frozen 12) (h1.frozen 7) (obj_other hr nr) (obj_other ha na) (obj_other hl nl) nr na nl)
  clear h h1 h2 h3 hr ha hl nr na nl
  go_enter_defers Try.func135, Try.ntmps135
  go_wp2_with (first
    | (go_at_call 138; (with_reducible refine (HL.out).mono ?_); rintro e w1 ⟨rfl, rfl⟩)
    | (go_at_call 120; (with_reducible refine (HB.out).mono ?_); rintro e w1 ⟨rfl, rfl⟩)
    | (go_at_call 132; (with_reducible refine (HC.out).mono ?_); rintro e w1 ⟨rfl, rfl⟩))
  refine leaves_cons (f := 133) (args := #[.pointer (some ⟨L, 8, none⟩), .bool true]) (by simp) (by simp [go_sem]) ?_
  refine (store_deferred L 8 (.int .u32 0) .returning _ ((H2.out.cell 8).trans rfl) (H2.out.frozen 8)).mono ?_
  rintro e u' w'' ⟨rfl, rfl, rfl⟩
  refine leaves_cons (f := 139) (args := #[.pointer (some ⟨L, 9, none⟩)]) (by simp [settle]) (by simp [go_sem]) ?_
  refine (unlock_deferred L 9 _ _ ((H3.out.cell 9).trans rfl) (H3.out.frozen 9)).mono ?_
  rintro e u' w'' ⟨rfl, rfl, rfl⟩
  simp [Leaves, settle, results, Try.results135]
/-- The world in which a refusal is kept. -/
def Refused (L : Nat) (r a : Int) (w : World) : World := (((((w.setCell ⟨L, 9, none⟩ (.int .i32 1)).setCell ⟨L, 11, none⟩ (.int .i64 r)).setCell ⟨L, 12, none⟩ (.int .i64 a)).drew.setCell ⟨L, 7, none⟩ (.int .u32 1)).drew.setCell ⟨L, 8, none⟩ (.int .u32 1)).setCell ⟨L, 9, none⟩ (.int .i32 0)
theorem refused_obj {L : Nat} {r a : Int} {b0 b1 b2 b3 b4 b5 b6 b7 b8 b9 b10 b11 b12 : Value} {T : TypeId} {w : World} (h : Obj1 w L #[b0, b1, b2, b3, b4, b5, b6, b7, b8, b9, b10, b11, b12] T) :
    Obj1 (Refused L r a w) L #[b0, b1, b2, b3, b4, b5, b6, .int .u32 1, .int .u32 1, .int .i32 0, b10, .int .i64 r, .int .i64 a] T := by
  have := ((((((h.set 9 (.int .i32 1)).set 11 (.int .i64 r)).set 12 (.int .i64 a)).drew.set 7 (.int .u32 1)).drew.set 8 (.int .u32 1)).set 9 (.int .i32 0))
  simp only [List.setIfInBounds_toArray, List.set_cons_succ, List.set_cons_zero] at this
  exact this
theorem refused_chg (L : Nat) (r a : Int) (w : World) : Chg (· = L) w (Refused L r a w) := by
  unfold Refused
  refine Chg.set ?_ ⟨L, 9, none⟩ _ (Or.inl rfl)
  refine Chg.set (Chg.drew ?_) ⟨L, 8, none⟩ _ (Or.inl rfl)
  refine Chg.set (Chg.drew ?_) ⟨L, 7, none⟩ _ (Or.inl rfl)
  refine Chg.set ?_ ⟨L, 12, none⟩ _ (Or.inl rfl)
  refine Chg.set ?_ ⟨L, 11, none⟩ _ (Or.inl rfl)
  refine Chg.set ?_ ⟨L, 9, none⟩ _ (Or.inl rfl)
  exact Chg.refl _ w
set_option maxHeartbeats 1600000 in
theorem do_once (L Rb Ab Lb : Nat) (r a : Int) (b0 b1 b2 b3 b4 b5 b6 b10 b11 b12 : Value) (T : TypeId) (w : World)
    (h : Obj1 w L #[b0, b1, b2, b3, b4, b5, b6, .int .u32 0, .int .u32 0, .int .i32 0, b10, b11, b12] T)
    (hr : w.cell? ⟨Rb, 0, none⟩ = some (.int .i64 r)) (ha : w.cell? ⟨Ab, 0, none⟩ = some (.int .i64 a)) (hl : w.cell? ⟨Lb, 0, none⟩ = some (.pointer (some ⟨L, 0, none⟩))) (nr : ¬ Rb = L) (na : ¬ Ab = L) (nl : ¬ Lb = L) :
    Calls Try.prog 131 #[.pointer (some ⟨L, 8, none⟩), .func (.func 132) #[] #[.pointer (some ⟨Rb, 0, none⟩), .pointer (some ⟨Ab, 0, none⟩), .pointer (some ⟨Lb, 0, none⟩)]] w fun e w' =>
      e = .returned (.tuple #[]) ∧ Obj1 w' L #[b0, b1, b2, b3, b4, b5, b6, .int .u32 1, .int .u32 1, .int .i32 0, b10, .int .i64 r, .int .i64 a] T ∧ Chg (· = L) w w' := by
  have hnot : ∀ (x : Bool) (w : World), (Op.unary .not (.bool x)).run Try.prog w = .ok (.bool (!x)) w := fun _ _ => rfl
  have HB := Lib.hid (bload_f L 8 w ((h.cell 8).trans rfl))
  have HS := Lib.hid ((slow_once L Rb Ab Lb r a _ _ _ _ _ _ _ _ _ _ T w h hr ha hl nr na nl).mono (R' := fun e w' => e = .returned (.tuple #[]) ∧ Refused L r a w = w') fun e w' hh => hh)
  have H := Lib.hid h
  clear h hr ha hl nr na nl
  go_enter Try.func131, Try.ntmps131
  go_wp2_with (first
    | (go_at_call 120; (with_reducible refine (HB.out).mono ?_); rintro e w1 ⟨rfl, rfl⟩)
    | (go_at_call 135; (with_reducible refine (HS.out).mono ?_); rintro e w1 ⟨rfl, rfl⟩))
  go_end0
  exact ⟨rfl, refused_obj H.out, refused_chg _ _ _ _⟩
set_option maxHeartbeats 1600000 in
theorem refuse_any (L : Nat) (r a : Int) (b0 b1 b2 b3 b4 b5 b6 b10 b11 b12 : Value) (T : TypeId) (w : World)
    (h : Obj1 w L #[b0, b1, b2, b3, b4, b5, b6, .int .u32 0, .int .u32 0, .int .i32 0, b10, b11, b12] T) :
    Calls Try.prog 128 #[.pointer (some ⟨L, 0, none⟩), .int .i64 r, .int .i64 a] w fun e w' =>
      e = .returned (.bool false) ∧ Obj1 w' L #[b0, b1, b2, b3, b4, b5, b6, .int .u32 1, .int .u32 1, .int .i32 0, b10, .int .i64 r, .int .i64 a] T ∧ Chg (· = L) w w' := by
  have hmf : ∀ (fn : Fn) (first cap : Array Value) (w : World), (Instr.makeFunc fn first cap).run Try.prog w = .ok (.func fn first cap) w := fun _ _ _ _ => rfl
  have hlt := h.lt
  have HD := Lib.hid (fun TP TI => do_once L (w.heap.size + 1) (w.heap.size + 2) w.heap.size r a _ _ _ _ _ _ _ _ _ _ T (((w.alloc (.cells #[.pointer (some ⟨L, 0, none⟩)] TP)).alloc (.cells #[.int .i64 r] TI)).alloc (.cells #[.int .i64 a] TI)) (((h.alloc _).alloc _).alloc _) (by simp [go_sem]) (by simp [go_sem]) (by simp [go_sem]) (by omega) (by omega) (by omega))
  clear h
  go_enter Try.func128, Try.ntmps128
  go_wp2_with (go_at_call 131; (with_reducible refine (HD.out _ _).mono ?_); rintro e w1 ⟨rfl, hO, hC⟩)
  go_ret
  exact ⟨rfl, hO, ((((Chg.refl _ w).alloc _).alloc _).alloc _).trans (hC.mono fun _ _ h => h)⟩
end Go.Proofs.Ytlhcjnjajkfahaa
