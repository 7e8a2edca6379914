/- The source's readers of numbers; windows. -/
import Derived.Test.YtcjjfnghgajefaaGreatK0
import Derived.StillTail
import Derived.StillTailTactics
import Derived.Deep.Quiet
import Derived.BigQuiet
import Derived.Deep.CutRange
import Derived.Deep.RegionHeld3
namespace Go.Proofs.YtcjjfnghgajefaaGreat
open Go.RowKit
set_option linter.unusedVariables false
def numB (s : ByteArray) (low : Bool) : Int := if low = true then loK s s.size else hiK s s.size
theorem number_any' (s : ByteArray) (low : Bool) (w : World) (hs : s.size ≤ 4) : Calls Tryz.prog 133 #[.string s, .bool low] w fun e w' => e = .returned (.int .i64 (numB s low)) ∧ w = w' := by
  cases low
  · exact number_hi' s w hs
  · exact number_lo' s w hs
theorem next_size (x : Sr) (l : Led) (n : Int) (h : 0 ≤ n) : ((x.next l n).2.1.size : Int) ≤ n := by
  unfold Sr.next
  split
  · simp only [ByteArray.size_extract]; omega
  · simpa using h
def NumPost (w : World) (X : Nat) (x y : Sr) (m : Led) (v : Int) (ok : Bool) (e : Ending) (w' : World) : Prop := e = .returned (.tuple #[.int .i64 v, .bool ok]) ∧ Pair w' X y m ∧ Chg (two X x) w w'
abbrev NumOf (w : World) (X : Nat) (x : Sr) (l : Led) (n : Int) (low : Bool) : Ending → World → Prop := NumPost w X x (x.next l n).1.1 (x.next l n).1.2 (numB (x.next l n).2.1 low) (x.next l n).2.2
theorem read_any (X : Nat) (x : Sr) (l : Led) (n : Int) (low : Bool) (w : World) (h : Pair w X x l) (h0 : 0 ≤ n) (h1 : n ≤ 4) : Calls Tryz.prog 118 #[.pointer (some ⟨X, 0, none⟩), .int .i64 n, .bool low] w (NumOf w X x l n low) := by
  have HN := Hi (next_any X x l n w h)
  have hs := next_size x l n h0
  unfold NumOf
  obtain ⟨⟨⟨y, m⟩, s, ok⟩, hr⟩ : ∃ r, x.next l n = r := ⟨_, rfl⟩
  rw [hr] at HN hs ⊢
  have hs' : s.size ≤ 4 := by simp only at hs; omega
  have HB := Hi (fun w0 => number_any' s low w0 hs')
  clear h hr hs hs' h0 h1
  go_enter Tryz.func118, Tryz.ntmps118
  go_wp2_with (first
    | (go_at_call 82; (with_reducible refine (HN.out).mono ?_); rintro e w1 ⟨rfl, hP, hC⟩)
    | (go_at_call 133; (with_reducible refine (HB.out _).mono ?_); rintro e w2 ⟨rfl, rfl⟩))
  go_ret2
  exact ⟨rfl, hP, hC⟩
theorem u8_any (X : Nat) (x : Sr) (l : Led) (w : World) (h : Pair w X x l) : Calls Tryz.prog 99 #[.pointer (some ⟨X, 0, none⟩)] w (NumOf w X x l 1 true) := by
  have HN := Hi (read_any X x l 1 true w h (by decide) (by decide))
  unfold NumOf at HN ⊢
  obtain ⟨⟨⟨y, m⟩, s, ok⟩, hr⟩ : ∃ r, x.next l 1 = r := ⟨_, rfl⟩
  rw [hr] at HN ⊢
  clear h hr
  go_enter Tryz.func99, Tryz.ntmps99
  go_wp2_with (go_at_call 118; (with_reducible refine (HN.out).mono ?_); rintro e w1 ⟨rfl, hP, hC⟩)
  go_ret2
  exact ⟨rfl, hP, hC⟩
theorem next_ok {x : Sr} {l : Led} {n : Int} (h : (x.next l n).2.2 = true) : (l.work 1).2 = true ∧ 0 ≤ n ∧ n ≤ (x.e : Int) - x.p ∧ (x.next l n).1.1 = { x with p := x.p + n.toNat } ∧ (x.next l n).1.2 = (l.work 1).1 ∧ (x.next l n).2.1 = x.s.extract x.p (x.p + n.toNat) := by
  unfold Sr.next at h ⊢
  by_cases hc : (l.work 1).2 = true ∧ 0 ≤ n ∧ n ≤ (x.e : Int) - x.p
  · rw [if_pos hc]; exact ⟨hc.1, hc.2.1, hc.2.2, rfl, rfl, rfl⟩
  · rw [if_neg hc] at h; simp at h
theorem next_bad {x : Sr} {l : Led} {n : Int} (h : (x.next l n).2.2 = false) : (x.next l n).1.1 = x ∧ (x.next l n).1.2 = (l.work 1).1 ∧ (x.next l n).2.1 = ByteArray.empty ∧ ¬ ((l.work 1).2 = true ∧ 0 ≤ n ∧ n ≤ (x.e : Int) - x.p) := by
  unfold Sr.next at h ⊢
  by_cases hc : (l.work 1).2 = true ∧ 0 ≤ n ∧ n ≤ (x.e : Int) - x.p
  · rw [if_pos hc] at h; simp at h
  · rw [if_neg hc]; exact ⟨rfl, rfl, rfl, hc⟩
/-! ### windows -/
theorem Obj1.there {w : World} {b : Nat} {cs : Array Value} {T : TypeId} (h : Obj1 w b cs T) (o n : Nat) (hn : o + n ≤ cs.size) : w.there b o n := fun j hj => by
  refine ⟨?_, h.frozen _⟩
  rw [h.cell, Array.getElem?_eq_getElem (by omega)]; rfl
theorem Obj1.range0 {w : World} {b : Nat} {cs : List Value} {T : TypeId} (h : Obj1 w b cs.toArray T) : w.rangeAt b 0 cs := fun j v hv => by
  rw [h.cell, Nat.zero_add]; simpa using hv
def setL : Array Value → Nat → List Value → Array Value
  | cs, _, [] => cs
  | cs, o, v :: r => setL (cs.setIfInBounds o v) (o + 1) r
theorem Stored.obj {w w2 : World} {b o : Nat} {vs : List Value} {cs : Array Value} {T : TypeId} (hst : Stored w b o vs w2) (h : Obj1 w b cs T) : Obj1 w2 b (setL cs o vs) T := by
  rw [show w2 = _ from hst]; clear hst
  induction vs generalizing w o cs with
  | nil => exact h
  | cons v r ih => rw [World.setCells, setL]; exact ih (h.set o v)
theorem Stored.oth {w w2 : World} {b o b' : Nat} {vs : List Value} {cs : Array Value} {T : TypeId} (hst : Stored w b o vs w2) (h : Obj1 w b' cs T) (hn : b' ≠ b) : Obj1 w2 b' cs T := by
  rw [show w2 = _ from hst]; clear hst
  induction vs generalizing w o with
  | nil => exact h
  | cons v r ih => rw [World.setCells]; exact ih (h.set_other _ _ hn)
theorem setL_get' (vs : List Value) : ∀ (cs : Array Value) (o i : Nat), o + vs.length ≤ cs.size → (setL cs o vs)[i]? = if o ≤ i ∧ i < o + vs.length then vs[i - o]? else cs[i]? := by
  induction vs with
  | nil => intro cs o i h; rw [setL, if_neg (by simp)]
  | cons v r ih =>
    intro cs o i h
    rw [setL, ih _ _ _ (by simp at h ⊢; omega)]
    simp only [List.length_cons] at h ⊢
    by_cases h1 : o + 1 ≤ i ∧ i < o + 1 + r.length
    · rw [if_pos h1, if_pos (by omega), show i - o = (i - (o + 1)) + 1 by omega, List.getElem?_cons_succ]
    · rw [if_neg h1]
      by_cases h2 : i = o
      · subst h2; rw [if_pos (by omega), Nat.sub_self]; simp [Array.getElem?_setIfInBounds]; omega
      · rw [if_neg (by omega), Array.getElem?_setIfInBounds, if_neg (by omega)]
theorem setL_full' (cs : Array Value) (vs : List Value) (h : vs.length = cs.size) : setL cs 0 vs = vs.toArray := by
  apply Array.ext_getElem?
  intro i
  rw [setL_get' vs cs 0 i (by omega)]
  by_cases hi : i < vs.length
  · rw [if_pos (by omega)]; simp
  · rw [if_neg (by omega), Array.getElem?_eq_none (by omega)]; simp; omega
theorem Stored.whole {w w2 : World} {b : Nat} {vs : List Value} {cs : Array Value} {T : TypeId} (hst : Stored w b 0 vs w2) (h : Obj1 w b cs T) (hl : vs.length = cs.size) : Obj1 w2 b vs.toArray T := by
  have := hst.obj h; rwa [setL_full' _ _ hl] at this
theorem store_o {P : Program} {ops : Array Oper} {rest : List Oper} {op : Oper} {a : Act} {w : World} {Q : Exit → Act → World → Prop} (hgd : op.guard = none) (ty : TypeId) (n : Nat) (x y : Operand) (ho : op.op = .store ty x y)
    (b : Nat) (YS : List Value) (hl : YS.length = n) (h1 : YS.all (·.oneCell') = true) (hx : a.eval x = .pointer (some ⟨b, 0, none⟩)) (hy : a.eval y = .agg YS.toArray) (hi : (P.info? ty).map (·.size) = some n) {cs : Array Value} {T : TypeId} (hO : Obj1 w b cs T) (hs : cs.size = n)
    (h : ∀ w2, Stored w b 0 YS w2 → Obj1 w2 b YS.toArray T → wpList P ops Q rest (a.put op.dst undef) w2) : wpList P ops Q (op :: rest) a w :=
  store_gen hgd ty x y ho b 0 YS.toArray hx hy (by have := hO.there 0 n (by omega); simpa [hl] using this) (by rw [List.size_toArray, hl]; exact hi) (by simpa using h1)
    fun w2 hst => h w2 (by simpa using hst) ((show Stored w b 0 YS w2 by simpa using hst).whole hO (by omega))
end Go.Proofs.YtcjjfnghgajefaaGreat
namespace Go.Proofs.YtcjjfnghgajefaaGreat
open Go.RowKit
theorem results_cc {P : Program} {fn : Func} {p q : Tmp} {ty ty2 : TypeId} (h : fn.results = #[.cell p ty, .cell q ty2]) (tmps : Array Value) (w : World) (b b2 : Nat) (cs cs2 : List Value) (d d2 : TypeDesc)
    (hp : tmps.getD p undef = .pointer (some ⟨b, 0, none⟩)) (R : w.rangeAt b 0 cs) (hu : P.underlying ty = some d) (hd : d.isRow = true) (hi : (P.info? ty).map (·.size) = some cs.length)
    (hq : tmps.getD q undef = .pointer (some ⟨b2, 0, none⟩)) (R2 : w.rangeAt b2 0 cs2) (hu2 : P.underlying ty2 = some d2) (hd2 : d2.isRow = true) (hi2 : (P.info? ty2).map (·.size) = some cs2.length) :
    (results fn tmps).run P w = .ok (.tuple #[.agg cs.toArray, .agg cs2.toArray]) w := by
  have hp' : tmps[p]?.getD undef = .pointer (some ⟨b, 0, none⟩) := by simpa using hp
  have hq' : tmps[q]?.getD undef = .pointer (some ⟨b2, 0, none⟩) := by simpa using hq
  simp [results, h, hp', hq', asAddr, run_loadVar_mid w b 0 ty cs d R hu hd hi, run_loadVar_mid w b2 0 ty2 cs2 d2 R2 hu2 hd2 hi2]
end Go.Proofs.YtcjjfnghgajefaaGreat
namespace Go.Proofs.YtcjjfnghgajefaaGreat
open Go.RowKit
set_option linter.unusedVariables false
set_option linter.unusedSimpArgs false
theorem ret_b {a b : Bool} (h : a = b) : Ending.returned (.bool a) = Ending.returned (.bool b) := by rw [h]
theorem ret_i {a b : Int} (h : a = b) : Ending.returned (.int .i64 a) = Ending.returned (.int .i64 b) := by rw [h]
def packB (k : Int) : Bool := decide (9 ≤ k) && decide (k ≤ 11)
def plainI (k : Int) : Int := if packB k = true then k - 8 else k
def colB (n : Int) : Bool := n == 15 || (n == 16 || (n == 24 || n == 32))
def depB (k n : Int) : Bool := if plainI k = 2 then colB n else n == 8
def alpB (b n : Int) : Bool := n == 0 || ((b == 32 && n == 8) || (b == 16 && n == 1))
theorem packed_any (k : Int) (w : World) : Calls Tryz.prog 94 #[.int .i64 k] w fun e w' => e = .returned (.bool (packB k)) ∧ w' = w := by
  go_enter Tryz.func94, Tryz.ntmps94
  go_wp2
  all_goals (go_ret; exact ⟨ret_b (by unfold packB; simp <;> omega), rfl⟩)
theorem plain_any (k : Int) (w : World) (h0 : 0 ≤ k) (h1 : k ≤ 255) : Calls Tryz.prog 93 #[.int .i64 k] w fun e w' => e = .returned (.int .i64 (plainI k)) ∧ w' = w := by
  have HP := Hi (fun w0 => packed_any k w0)
  obtain ⟨b, hb⟩ : ∃ b, packB k = b := ⟨_, rfl⟩
  rw [hb] at HP
  go_enter Tryz.func93, Tryz.ntmps93
  cases b
  all_goals go_wp2_with (go_at_call 94; (with_reducible refine (HP.out _).mono ?_); rintro e w1 ⟨rfl, rfl⟩)
  all_goals (go_ret; exact ⟨ret_i (by unfold plainI; rw [hb]; simp [wrap64]; try omega), rfl⟩)
theorem colors_any (n : Int) (w : World) : Calls Tryz.prog 96 #[.int .i64 n] w fun e w' => e = .returned (.bool (colB n)) ∧ w' = w := by
  go_enter Tryz.func96, Tryz.ntmps96
  by_cases h1 : n = 15
  · subst h1; go_wp2; go_ret; exact ⟨rfl, rfl⟩
  by_cases h2 : n = 16
  · subst h2; go_wp2; go_ret; exact ⟨rfl, rfl⟩
  by_cases h3 : n = 24
  · subst h3; go_wp2; go_ret; exact ⟨rfl, rfl⟩
  have e1 : (n == 15) = false := by simpa using h1
  have e2 : (n == 16) = false := by simpa using h2
  have e3 : (n == 24) = false := by simpa using h3
  go_wp2
  go_ret
  exact ⟨ret_b (by unfold colB; rw [e1, e2, e3]; simp), rfl⟩
theorem depth_any (k n : Int) (w : World) (h0 : 0 ≤ k) (h1 : k ≤ 255) : Calls Tryz.prog 97 #[.int .i64 k, .int .i64 n] w fun e w' => e = .returned (.bool (depB k n)) ∧ w' = w := by
  have HP := Hi (fun w0 => plain_any k w0 h0 h1)
  have HC := Hi (fun w0 => colors_any n w0)
  obtain ⟨p, hp⟩ : ∃ p, plainI k = p := ⟨_, rfl⟩
  rw [hp] at HP
  go_enter Tryz.func97, Tryz.ntmps97
  by_cases h2 : p = 2
  · subst h2
    go_wp2_with (first | (go_at_call 93; (with_reducible refine (HP.out _).mono ?_); rintro e w1 ⟨rfl, rfl⟩) | (go_at_call 96; (with_reducible refine (HC.out _).mono ?_); rintro e w1 ⟨rfl, rfl⟩))
    go_ret
    exact ⟨ret_b (by unfold depB; rw [if_pos hp]), rfl⟩
  · have e2 : (p == 2) = false := by simpa using h2
    go_wp2_with (first | (go_at_call 93; (with_reducible refine (HP.out _).mono ?_); rintro e w1 ⟨rfl, rfl⟩) | (go_at_call 96; (with_reducible refine (HC.out _).mono ?_); rintro e w1 ⟨rfl, rfl⟩))
    go_ret
    exact ⟨ret_b (by unfold depB; rw [hp, if_neg h2]), rfl⟩
theorem alpha_any (b n : Int) (w : World) : Calls Tryz.prog 98 #[.int .i64 b, .int .i64 n] w fun e w' => e = .returned (.bool (alpB b n)) ∧ w' = w := by
  go_enter Tryz.func98, Tryz.ntmps98
  by_cases h1 : b = 32
  · subst h1
    by_cases h2 : n = 0
    · subst h2; go_wp2; go_ret; exact ⟨rfl, rfl⟩
    · have e2 : (n == 0) = false := by simpa using h2
      go_wp2; go_ret; exact ⟨ret_b (by unfold alpB; simp [e2]), rfl⟩
  have e1 : (b == 32) = false := by simpa using h1
  by_cases h3 : b = 16
  · subst h3
    by_cases h2 : n = 0
    · subst h2; go_wp2; go_ret; exact ⟨rfl, rfl⟩
    · have e2 : (n == 0) = false := by simpa using h2
      go_wp2; go_ret; exact ⟨ret_b (by unfold alpB; simp [e2]), rfl⟩
  have e3 : (b == 16) = false := by simpa using h3
  go_wp2; go_ret; exact ⟨ret_b (by unfold alpB; simp [e1, e3]), rfl⟩
theorem or_word (a b : Int) (h0 : 0 ≤ a) (h1 : a < 256) (h2 : 0 ≤ b) (h3 : b < 256) : bits .or .i64 (wrap64 a) (wrap64 (wrap64 b * 256)) = a + b * 256 := by
  rw [IntWalk.wrap64_in a (by omega), IntWalk.wrap64_in b (by omega), IntWalk.wrap64_in (b * 256) (by omega)]
  have := or_low 8 a b h0 (by omega) h2 (by omega)
  simpa using this
def wordN (s : ByteArray) (a : Nat) : Int := byN s a + byN s (a + 1) * 256
theorem word_any (s : ByteArray) (a : Nat) (w : World) (h : a + 1 < s.size) (hs : s.size ≤ 1000) : Calls Tryz.prog 95 #[.string s, .int .i64 a] w fun e w' => e = .returned (.int .i64 (wordN s a)) ∧ ∃ k, w' = w.drewN k := by
  have b1 := byN_bd s a
  have b2 := byN_bd s (a + 1)
  have H1 := Hi (byN_get s a (by omega))
  have H2 := Hi (byN_get s (a + 1) h)
  have h0 : a < s.size := by omega
  have i3 : ((a : Int) + 1).toNat = a + 1 := by omega
  have i4 : (0 : Int) ≤ (a : Int) + 1 := by omega
  have i5 : (a : Int) + 1 < s.size := by omega
  have eW : IntKind.i64.wrap ((a : Int) + 1) = (a : Int) + 1 := i64_wraps _ (by omega) (by omega)
  go_enter Tryz.func95, Tryz.ntmps95
  go_wp2
  go_quiet (fail)
  go_wp2
  go_ret
  exact ⟨ret_i (by rw [H1.out, H2.out, or_word _ _ b1.1 b1.2 b2.1 b2.2]; rfl), _, rfl⟩
theorem word_at (s : ByteArray) (a : Nat) (i V : Int) (w : World) (hi : i = a) (hV : wordN s a = V) (h : a + 1 < s.size) (hs : s.size ≤ 1000) : Calls Tryz.prog 95 #[.string s, .int .i64 i] w fun e w' => e = .returned (.int .i64 V) ∧ ∃ k, w' = w.drewN k := by
  subst hi; subst hV; exact word_any s a w h hs
end Go.Proofs.YtcjjfnghgajefaaGreat
namespace Go
section
variable {P : Program} {ops : Array Oper} {md : Region.Mode} {C : World → Prop}
def headQ (P : Program) (md : Region.Mode) (ops : Array Oper) (C : World → Prop) (n : Nat) (L : Array Bool → Act → Prop) : Nat → Array Bool → Act → Prop
  | 0, listed, a => L listed a
  | f + 1, listed, a => Region.ready md ops listed ≠ [] ∧ ∀ i ∈ Region.ready md ops listed, i < n ∧ qOp P ops C i (headQ P md ops C n L f (listed.setIfInBounds i true)) a
theorem headQ_any {n g : Nat} {L : Array Bool → Act → Prop} {Q' : Exit → Act → World → Prop} (hL : ∀ listed a w, C w → L listed a → wpAny P md ops Q' g listed a w) :
    ∀ (f : Nat) (listed : Array Bool) (a : Act) (w : World), C w → headQ P md ops C n L f listed a → wpAny P md ops Q' (f + g) listed a w
  | 0, listed, a, w, hw, h => by rw [Nat.zero_add]; exact hL _ _ _ hw h
  | f + 1, listed, a, w, hw, h => by
    rw [show f + 1 + g = (f + g) + 1 by omega]
    exact ⟨fun h0 => absurd h0 h.1, fun i hi => wpOp_of_qOp hw (fun a' w' hw' h' => headQ_any hL f _ a' w' hw' h') (h.2 i hi).2⟩
theorem headQ_first {n i : Nat} {oi : Oper} {v : Value} {L : Array Bool → Act → Prop} (hi : ops[i]? = some oi) (hsel : ∀ (j : Nat) (o : Oper) cs b, ops[j]? = some o → o.op ≠ .select cs b)
    (hs : Region.sinkB md ops n = true) (hc : Region.chainB md ops n = true) (hn : n < ops.size) (hin : i < n)
    (hdone : ∀ listed a, L listed a → ∀ j ∈ Region.ready md ops listed, n ≤ j) :
    ∀ (f : Nat) (listed : Array Bool) (a : Act), HeadInv md ops n listed →
      (∀ j oj, ops[j]? = some oj → j ≠ i → listed.getD j true = false → (∀ e ∈ oj.after, Region.binds md e = true → e.on ≠ i) → oi.apart ops oj = true) →
      i ∈ Region.ready md ops listed → YieldsIn P ops C oi v a →
      headQ P md ops C n L f (listed.setIfInBounds i true) (a.put oi.dst v) → headQ P md ops C n L (f + 1) listed a := by
  intro f
  induction f with
  | zero =>
    intro listed a inv _ hr hy H
    have hun := (mem_ready.1 hr).1
    refine ⟨fun h => (by rw [h] at hr; cases hr), fun j hj => ?_⟩
    have hjn : j < n := Nat.lt_of_not_le fun h => tail_waits hs hc hn inv _ i rfl hin hun j h hj
    refine ⟨hjn, ?_⟩
    by_cases hji : j = i
    · subst hji; exact hy.qOp hi H
    · have := hdone _ _ H j (ready_mono hj hji)
      omega
  | succ f ih =>
    intro listed a inv hfree hr hy H
    have hun := (mem_ready.1 hr).1
    refine ⟨fun h => (by rw [h] at hr; cases hr), fun j hj => ?_⟩
    have hjn : j < n := Nat.lt_of_not_le fun h => tail_waits hs hc hn inv _ i rfl hin hun j h hj
    refine ⟨hjn, ?_⟩
    by_cases hji : j = i
    · subst hji; exact hy.qOp hi H
    · have h1 := (H.2 j (ready_mono hj hji)).2
      obtain ⟨hjun, oj, hoj, hall⟩ := mem_ready.1 hj
      have hnot : ∀ e ∈ oj.after, Region.binds md e = true → e.on ≠ i := fun e he hb heq => by
        have h1 := hall e he hb
        rw [heq, getD_both hun] at h1
        cases h1
      have h2 := qOp_put hoj (hfree j oj hoj hji hjun hnot) (fun cs b => hsel i oi cs b hi) (fun cs b => hsel j oj cs b hoj) hy h1
      refine qOp_mono (fun a' h3 => ih (listed.setIfInBounds j true) a' (inv.set hj hjn) (fun k ok hk hki hku hno => hfree k ok hk hki ?_ hno) (ready_mono hr (Ne.symm hji)) h3.1 ?_) h2
      · by_cases hjk : j = k
        · subst hjk; exact hjun
        · rw [getD_set_ne true hjk] at hku; exact hku
      · rw [Array.setIfInBounds_comm _ _ hji]
        exact h3.2
theorem headQ_lex {n g : Nat} {Lq : Act → Prop} (hsel : Region.noSelect ops = true) (hs : Region.sinkB md ops n = true) (hc : Region.chainB md ops n = true) (hn : n < ops.size) :
    ∀ (l : List Oper) (k : Nat) (listed : Array Bool) (a : Act), (∀ j, j < l.length → l[j]? = ops[k + j]?) → k + l.length = n → HeadInv md ops n listed →
    Region.lexHead md ops g l.length k listed = true → wpQuiet P ops C Lq l a →
    headQ P md ops C n (fun listed' a' => Region.seqB md ops g n listed' = true ∧ Lq a') l.length listed a
  | [], k, listed, a, _, hk, _, hB, h => by
    have : k = n := by simpa using hk
    subst this
    exact ⟨by simpa [Region.lexHead] using hB, h⟩
  | o :: l, k, listed, a, hl, hk, inv, hB, h => by
    have h0 : ops[k]? = some o := by simpa using (hl 0 (by simp)).symm
    simp only [List.length_cons, Region.lexHead, Bool.and_eq_true] at hB
    obtain ⟨⟨hr, hf⟩, hB'⟩ := hB
    have hkn : k < n := by simp only [List.length_cons] at hk; omega
    have hr' : k ∈ Region.ready md ops listed := by simpa using hr
    have hst : qOp P ops C k (wpQuiet P ops C Lq l) a := by unfold qOp; simp only [h0]; exact h
    obtain ⟨v, hy, hK⟩ := yieldsIn_of_qOp h0 hst
    exact headQ_first h0 (Region.noSelect_spec hsel) hs hc hn hkn (fun listed' a' hL => seqB_ready hL.1) l.length listed a inv (Region.free_spec h0 hf) hr' hy
      (headQ_lex hsel hs hc hn l (k + 1) _ _ (fun j hj => by have := hl (j + 1) (by simp; omega); simpa [Nat.add_assoc, Nat.add_comm 1 j] using this) (by simp only [List.length_cons] at hk; omega) (inv.set hr' hkn) hB' hK)
theorem wp_region_quiet_tail {id : Nat} {Q : Exit → Act → World → Prop} {a : Act} {w : World} {l : List Oper} (n : Nat) (hm : P.follows .mixedOrders = true) (hB : Region.lexTailB .any l.toArray n = true)
    (h : wpQuiet P l.toArray (fun w' => ∃ k, w' = w.drewN k) (fun a' => ∀ w', (∃ k, w' = w.drewN k) → wpList P l.toArray Q (l.drop n) a' w') (l.take n) a) : (Code.region id l.toArray true).wp P Q a w := by
  simp only [Region.lexTailB, Bool.and_eq_true, decide_eq_true_eq] at hB
  obtain ⟨⟨⟨⟨hsel, hn⟩, hs⟩, hc⟩, hlex⟩ := hB
  have hn' : n < l.length := by simpa using hn
  have htl : (l.take n).length = n := by simp; omega
  have hdl : (l.drop n).length = l.toArray.size - n := by simp
  have inv0 : HeadInv .any l.toArray n (Array.replicate l.toArray.size false) :=
    ⟨by simp, fun j oj _ hl => (by rw [getD_replicate_false] at hl; cases hl), fun t _ ht => getD_in (by simpa using ht) (getD_replicate_false _ _)⟩
  have H := headQ_lex (md := .any) (g := l.toArray.size - n) hsel hs hc hn (l.take n) 0 _ a (fun j hj => by
    have hj' : j < n := by rw [htl] at hj; exact hj
    simp [hj']) (by simpa using htl) inv0 (by rw [htl]; exact hlex) h
  refine wp_region_any hm ?_
  have := headQ_any (Q' := Q) (g := l.toArray.size - n) (fun listed a' w' hw' hL => by
    have := wpAny_of_seq (md := .any) (Q' := Q) (l.drop n) n listed a' w' (fun j => by simp [List.getElem?_drop]) (by rw [hdl]; exact hL.1) (hL.2 w' hw')
    rwa [hdl] at this) _ _ _ _ ⟨1, rfl⟩ H
  rw [htl, show n + (l.toArray.size - n) = l.toArray.size by omega] at this
  exact this
end
end Go
namespace Go.Proofs.YtcjjfnghgajefaaGreat
open Go.RowKit
set_option linter.unusedVariables false
set_option linter.unusedSimpArgs false
def knownB (k : Int) : Bool := (decide (1 ≤ plainI k) && decide (plainI k ≤ 3)) && (decide (k ≤ 3) || packB k)
def chkArr (x1 : Int) (kn pb th c7 : Bool) (C W H : Int) (dp : Bool) (f : Int) (al : Bool) : Array Value :=
  #[.bool (decide (1 < x1)), .int .i64 2, .int .i64 1, .bool false, .bool (!kn), .int .i64 3, .int .i64 2, .bool false, .bool (pb && !th), .int .i64 2, .int .i64 1, .bool false,
    .bool (th && !c7), .int .i64 3, .int .i64 7, .bool false, .bool (th && C == 0), .int .i64 2, .int .i64 5, .bool true, .bool (W == 0), .int .i64 2, .int .i64 12, .bool false,
    .bool (decide (16384 < W)), .int .i64 3, .int .i64 12, .bool true, .bool (H == 0), .int .i64 2, .int .i64 14, .bool false, .bool (decide (16384 < H)), .int .i64 3, .int .i64 14, .bool true,
    .bool (!dp), .int .i64 3, .int .i64 16, .bool false, .bool (f / 64 != 0), .int .i64 3, .int .i64 17, .bool true, .bool (!al), .int .i64 2, .int .i64 17, .bool true]
def chkOf (s : ByteArray) : Array Value := chkArr (byN s 1) (knownB (byN s 2)) (plainI (byN s 2) == 1) (byN s 1 == 1) (colB (byN s 7)) (wordN s 5) (wordN s 12) (wordN s 14) (depB (byN s 2) (byN s 16)) (byN s 17) (alpB (byN s 16) (bits .and .i64 (byN s 17) 15))
def ChkPost (s : ByteArray) (w : World) (e : Ending) (w' : World) : Prop := ∃ B T, e = .returned (.slice (some ⟨B, 0, none⟩) 12 12) ∧ Obj1 w' B (chkOf s) T ∧ w.heap.size ≤ B ∧ Below w.heap.size w w'
set_option maxRecDepth 100000 in
set_option maxHeartbeats 8000000 in
theorem checks_any (s : ByteArray) (w : World) (h : s.size = 18) : Calls Tryz.prog 59 #[.string s] w (ChkPost s w) := by
  obtain ⟨k, hk⟩ : ∃ k, byN s 2 = k := ⟨_, rfl⟩
  obtain ⟨P, hP⟩ : ∃ P, plainI k = P := ⟨_, rfl⟩
  have bk := byN_bd s 2
  have b1 := byN_bd s 1
  have b17 := byN_bd s 17
  have b16 := byN_bd s 16
  have b7 := byN_bd s 7
  rw [hk] at bk
  have i1 : 1 < s.size := by omega
  have i2 : 2 < s.size := by omega
  have i7 : 7 < s.size := by omega
  have i16 : 16 < s.size := by omega
  have i17 : 17 < s.size := by omega
  have g1 : ((s[1]).toNat : Int) = byN s 1 := byN_get s 1 i1
  have g2 : ((s[2]).toNat : Int) = k := by rw [← hk]; exact byN_get s 2 i2
  have g7 : ((s[7]).toNat : Int) = byN s 7 := byN_get s 7 i7
  have g16 : ((s[16]).toNat : Int) = byN s 16 := byN_get s 16 i16
  have g17 : ((s[17]).toNat : Int) = byN s 17 := byN_get s 17 i17
  have HPL := Hi (fun w0 => plain_any k w0 bk.1 (by omega))
  rw [hP] at HPL
  obtain ⟨x1, hx1⟩ : ∃ x, byN s 1 = x := ⟨_, rfl⟩
  obtain ⟨x7, hx7⟩ : ∃ x, byN s 7 = x := ⟨_, rfl⟩
  obtain ⟨n, hn⟩ : ∃ x, byN s 16 = x := ⟨_, rfl⟩
  obtain ⟨f, hf⟩ : ∃ x, byN s 17 = x := ⟨_, rfl⟩
  obtain ⟨W, hW⟩ : ∃ x, wordN s 12 = x := ⟨_, rfl⟩
  obtain ⟨H, hH⟩ : ∃ x, wordN s 14 = x := ⟨_, rfl⟩
  obtain ⟨C, hC⟩ : ∃ x, wordN s 5 = x := ⟨_, rfl⟩
  obtain ⟨pk, hpk⟩ : ∃ x, packB k = x := ⟨_, rfl⟩
  obtain ⟨c7, hc7⟩ : ∃ x, colB x7 = x := ⟨_, rfl⟩
  obtain ⟨dp, hdp⟩ : ∃ x, depB k n = x := ⟨_, rfl⟩
  rw [hx1] at g1 b1
  rw [hx7] at g7 b7
  rw [hn] at g16 b16
  rw [hf] at g17 b17
  have HPK := Hi (fun w0 => packed_any k w0)
  rw [hpk] at HPK
  have HC7 := Hi (fun w0 => colors_any x7 w0)
  rw [hc7] at HC7
  have HDP := Hi (fun w0 => depth_any k n w0 bk.1 (by omega))
  rw [hdp] at HDP
  have HW5 := Hi (fun w0 => word_at s 5 5 C w0 rfl hC (by omega) (by omega))
  have HW12 := Hi (fun w0 => word_at s 12 12 W w0 rfl hW (by omega) (by omega))
  have HW14 := Hi (fun w0 => word_at s 14 14 H w0 rfl hH (by omega) (by omega))
  obtain ⟨a, ha⟩ : ∃ x, bits .and .i64 f 15 = x := ⟨_, rfl⟩
  obtain ⟨al, hal⟩ : ∃ x, alpB n a = x := ⟨_, rfl⟩
  have HAL := Hi (fun w0 => alpha_any n a w0)
  rw [hal] at HAL
  have e1 : wrap64 k = k := IntWalk.wrap64_in k (by omega)
  have e2 : wrap64 f = f := IntWalk.wrap64_in f (by omega)
  have e3 : wrap64 n = n := IntWalk.wrap64_in n (by omega)
  have e4 : wrap64 x7 = x7 := IntWalk.wrap64_in x7 (by omega)
  obtain ⟨th, hth⟩ : ∃ x, (x1 == 1) = x := ⟨_, rfl⟩
  obtain ⟨pb, hpb⟩ : ∃ x, (P == 1) = x := ⟨_, rfl⟩
  obtain ⟨KN, hKN⟩ : ∃ x, knownB k = x := ⟨_, rfl⟩
  have HEND := Hi (show ∀ w' : World, Below w.heap.size w w' → ChkPost s w (.returned (.slice (some ⟨w'.heap.size, 0, none⟩) 12 12)) (w'.alloc (.cells (chkArr x1 KN pb th c7 C W H dp f al) 132)) from fun w' hb => by
    have e : chkOf s = chkArr x1 KN pb th c7 C W H dp f al := by unfold chkOf; rw [hx1, hk, hx7, hn, hf, hW, hH, hC, hKN, hc7, hdp, ha, hal, hth, hP, hpb]
    exact ⟨w'.heap.size, _, rfl, by rw [e]; exact obj1_new _ _ _, hb.size, hb.alloc hb.size _⟩)
  have hcase : (k = 0 ∧ P = 0 ∧ KN = false) ∨ (1 ≤ k ∧ k ≤ 3 ∧ P = k ∧ KN = true) ∨ (4 ≤ k ∧ 1 ≤ P ∧ P ≤ 3 ∧ pk = true ∧ KN = true) ∨ (4 ≤ k ∧ 4 ≤ P ∧ KN = false) := by
    by_cases h9 : 9 ≤ k ∧ k ≤ 11
    · have e : packB k = true := by unfold packB; simp; omega
      have eP : plainI k = k - 8 := by unfold plainI; rw [if_pos e]
      rw [e] at hpk; rw [eP] at hP
      refine Or.inr (Or.inr (Or.inl ⟨by omega, by omega, by omega, hpk.symm, ?_⟩))
      rw [← hKN]; unfold knownB; rw [eP, e]; simp; omega
    · have e : packB k = false := by unfold packB; simp; omega
      have eP : plainI k = k := by unfold plainI; rw [if_neg (by rw [e]; decide)]
      rw [eP] at hP
      by_cases k0 : k = 0
      · exact Or.inl ⟨k0, by omega, by rw [← hKN]; unfold knownB; rw [eP, e, k0]; decide⟩
      by_cases k3 : k ≤ 3
      · exact Or.inr (Or.inl ⟨by omega, k3, hP.symm, by rw [← hKN]; unfold knownB; rw [eP]; simp; omega⟩)
      · exact Or.inr (Or.inr (Or.inr ⟨by omega, by omega, by rw [← hKN]; unfold knownB; rw [eP]; simp; omega⟩))
  have HCASE := Hi hcase
  clear hcase bk b1 b17 b16 b7 hk hP hx1 hx7 hn hf hW hH hC hpk hc7 hdp hal h hKN
  go_enter Tryz.func59, Tryz.ntmps59
  go_wp2_with fail
  go_quiet (fail)
  generalize hw1 : w.drewN _ = w1
  go_upto_region 2 with (fail)
  simp only [e1, e2]
  go_cut [6] from 19 to 34 (fun c wx => c = .bool KN ∧ wx = w1)
  case first =>
    rcases HCASE.out with ⟨rfl, rfl, rfl⟩ | ⟨h1, h2, rfl, rfl⟩ | ⟨h1, h2, h3, rfl, rfl⟩ | ⟨h1, h2, rfl⟩
    · go_wp2_with (first | (go_at_call 93; (with_reducible refine (HPL.out _).mono ?_); rintro e w1 ⟨rfl, rfl⟩) | (go_at_call 94; (with_reducible refine (HPK.out _).mono ?_); rintro e w1 ⟨rfl, rfl⟩))
      go_meet
      exact ⟨rfl, rfl⟩
    · have q1 : decide (P ≥ 1) = true := by simpa using h1
      have q2 : decide (P ≤ 3) = true := by simpa using h2
      go_wp2_with (first | (go_at_call 93; (with_reducible refine (HPL.out _).mono ?_); rintro e w1 ⟨rfl, rfl⟩) | (go_at_call 94; (with_reducible refine (HPK.out _).mono ?_); rintro e w1 ⟨rfl, rfl⟩))
      go_meet
      exact ⟨rfl, rfl⟩
    · have q1 : decide (P ≥ 1) = true := by simpa using h2
      have q2 : decide (P ≤ 3) = true := by simpa using h3
      have q3 : decide (k ≤ 3) = false := by rw [decide_eq_false_iff_not]; omega
      go_wp2_with (first | (go_at_call 93; (with_reducible refine (HPL.out _).mono ?_); rintro e w1 ⟨rfl, rfl⟩) | (go_at_call 94; (with_reducible refine (HPK.out _).mono ?_); rintro e w1 ⟨rfl, rfl⟩))
      go_meet
      exact ⟨rfl, rfl⟩
    · have q1 : decide (P ≥ 1) = true := by rw [decide_eq_true_iff]; omega
      have q2 : decide (P ≤ 3) = false := by rw [decide_eq_false_iff_not]; omega
      go_wp2_with (first | (go_at_call 93; (with_reducible refine (HPL.out _).mono ?_); rintro e w1 ⟨rfl, rfl⟩) | (go_at_call 94; (with_reducible refine (HPK.out _).mono ?_); rintro e w1 ⟨rfl, rfl⟩))
      go_meet
      exact ⟨rfl, rfl⟩
  case rest =>
    obtain ⟨rfl, rfl⟩ := hcut
    go_wp2_with fail
    go_quiet ((go_at_call 95; first | with_reducible exact Calls.quiet_of (HW12.out _) | with_reducible exact Calls.quiet_of (HW14.out _)))
    go_wp2_with fail
    simp only [e3]
    generalize hw2 : World.drewN _ _ = w2
    have q4 := hpb
    have HB2 : Below w.heap.size w w2 := by
      rw [← hw2]
      first | (rw [← hw1]; exact bdrew (bdrew (Below.refl _ _) _) _) | exact bdrew (bdrew (Below.refl _ _) _) _
    have HB2 := Hi HB2
    clear hw1 hw2
    cases th <;> cases pb
    all_goals
      refine wp_region_quiet_tail 58 (by kernel_rfl) (by kernel_rfl) ?_
      simp only [List.take_succ_cons, List.take_zero, List.drop_succ_cons, List.drop_zero]
      repeat go_big_quiet_step ((first
        | (go_at_call 93; exact Calls.quiet_of_same (HPL.out _))
        | (go_at_call 96; exact Calls.quiet_of_same (HC7.out _))
        | (go_at_call 95; with_reducible exact Calls.quiet_of (HW5.out _))
        | (go_at_call 97; exact Calls.quiet_of_same (HDP.out _))
        | (go_at_call 98; exact Calls.quiet_of_same (HAL.out _))))
      refine wpQuiet_nil ?_
      intro _ hw'
      obtain ⟨nq, hw''⟩ := hw'
      subst hw''
      have HB3 := Hi (bdrew HB2.out nq)
      generalize hw3 : w2.drewN _ = w3 at HB3 ⊢
      go_wp2_with fail
      go_ret
      exact HEND.out w3 HB3.out
structure Chk where
  x1 : Int
  kn : Bool
  pb : Bool
  th : Bool
  c7 : Bool
  C : Int
  W : Int
  H : Int
  dp : Bool
  f : Int
  al : Bool
def Chk.arr (c : Chk) : Array Value := chkArr c.x1 c.kn c.pb c.th c.c7 c.C c.W c.H c.dp c.f c.al
def Chk.row (c : Chk) : Nat → Bool × Int × Int × Bool
  | 0 => (decide (1 < c.x1), 2, 1, false)
  | 1 => (!c.kn, 3, 2, false)
  | 2 => (c.pb && !c.th, 2, 1, false)
  | 3 => (c.th && !c.c7, 3, 7, false)
  | 4 => (c.th && c.C == 0, 2, 5, true)
  | 5 => (c.W == 0, 2, 12, false)
  | 6 => (decide (16384 < c.W), 3, 12, true)
  | 7 => (c.H == 0, 2, 14, false)
  | 8 => (decide (16384 < c.H), 3, 14, true)
  | 9 => (!c.dp, 3, 16, false)
  | 10 => (c.f / 64 != 0, 3, 17, true)
  | 11 => (!c.al, 2, 17, true)
  | _ => (false, 0, 0, false)
theorem Chk.row_cells (c : Chk) (i : Nat) (h : i < 12) : c.arr[i * 4]? = some (.bool (c.row i).1) ∧ c.arr[i * 4 + 1]? = some (.int .i64 (c.row i).2.1) ∧ c.arr[i * 4 + 2]? = some (.int .i64 (c.row i).2.2.1) ∧ c.arr[i * 4 + 3]? = some (.bool (c.row i).2.2.2) := by
  match i, h with
  | 0, _ => exact ⟨rfl, rfl, rfl, rfl⟩
  | 1, _ => exact ⟨rfl, rfl, rfl, rfl⟩
  | 2, _ => exact ⟨rfl, rfl, rfl, rfl⟩
  | 3, _ => exact ⟨rfl, rfl, rfl, rfl⟩
  | 4, _ => exact ⟨rfl, rfl, rfl, rfl⟩
  | 5, _ => exact ⟨rfl, rfl, rfl, rfl⟩
  | 6, _ => exact ⟨rfl, rfl, rfl, rfl⟩
  | 7, _ => exact ⟨rfl, rfl, rfl, rfl⟩
  | 8, _ => exact ⟨rfl, rfl, rfl, rfl⟩
  | 9, _ => exact ⟨rfl, rfl, rfl, rfl⟩
  | 10, _ => exact ⟨rfl, rfl, rfl, rfl⟩
  | 11, _ => exact ⟨rfl, rfl, rfl, rfl⟩
def Chk.from (c : Chk) : Nat → Nat → Option (Int × Int)
  | 0, _ => none
  | n + 1, i => if (c.row i).1 = true then some ((c.row i).2.1, (c.row i).2.2.1) else c.from n (i + 1)
def Chk.first (c : Chk) : Option (Int × Int) := c.from 12 0
def Chk.isFrom (c : Chk) : Nat → Nat → Bool
  | 0, _ => true
  | n + 1, i => if ((c.row i).1 && !(c.row i).2.2.2) = true then false else c.isFrom n (i + 1)
def Chk.is (c : Chk) : Bool := c.isFrom 12 0
theorem Chk.is_next (c : Chk) {i : Nat} (h : i < 12) {r : Bool × Int × Int × Bool} (hr : c.row i = r) (hb : (r.1 && !r.2.2.2) = false) : c.isFrom (12 - i) i = c.isFrom (12 - (i + 1)) (i + 1) := by
  rw [show 12 - i = (12 - (i + 1)) + 1 by omega]; conv => lhs; unfold Chk.isFrom
  rw [hr, hb]; rfl
theorem Chk.is_bad (c : Chk) {i : Nat} (h : i < 12) {r : Bool × Int × Int × Bool} (hr : c.row i = r) (hb : (r.1 && !r.2.2.2) = true) : c.isFrom (12 - i) i = false := by
  rw [show 12 - i = (12 - (i + 1)) + 1 by omega]; unfold Chk.isFrom; rw [hr, hb]; rfl
def chkS (s : ByteArray) : Chk := ⟨byN s 1, knownB (byN s 2), plainI (byN s 2) == 1, byN s 1 == 1, colB (byN s 7), wordN s 5, wordN s 12, wordN s 14, depB (byN s 2) (byN s 16), byN s 17, alpB (byN s 16) (bits .and .i64 (byN s 17) 15)⟩
theorem chkOf_arr (s : ByteArray) : chkOf s = (chkS s).arr := rfl
theorem byN_ext (s : ByteArray) (a b i : Nat) (h : a + i < b) (hb : b ≤ s.size) : byN (s.extract a b) i = byN s (a + i) := by
  have h1 : i < (s.extract a b).size := by rw [ByteArray.size_extract]; omega
  rw [← byN_get (s.extract a b) i h1, ← byN_get s (a + i) (by omega), ByteArray.getElem_extract]
theorem chkS_ext (s : ByteArray) (h : 18 ≤ s.size) : chkS (s.extract 0 18) = chkS s := by
  have e : ∀ i, i < 18 → byN (s.extract 0 18) i = byN s i := fun i hi => by rw [byN_ext s 0 18 i (by omega) h, Nat.zero_add]
  unfold chkS wordN
  rw [e 1 (by omega), e 2 (by omega), e 7 (by omega), e 5 (by omega), e 12 (by omega), e 14 (by omega), e 16 (by omega), e 17 (by omega), e (5 + 1) (by omega), e (12 + 1) (by omega), e (14 + 1) (by omega)]
theorem checks_c (s : ByteArray) (c : Chk) (w : World) (h : 18 ≤ s.size) (hc : chkS s = c) : Calls Tryz.prog 59 #[.string (s.extract 0 18)] w fun e w' => ∃ B T, e = .returned (.slice (some ⟨B, 0, none⟩) 12 12) ∧ Obj1 w' B c.arr T ∧ w.heap.size ≤ B ∧ Below w.heap.size w w' := by
  refine (checks_any (s.extract 0 18) w (by rw [ByteArray.size_extract]; omega)).mono ?_
  rintro e w' ⟨B, T, h1, h2, h3⟩
  rw [chkOf_arr, chkS_ext s h, hc] at h2
  exact ⟨B, T, h1, h2, h3⟩
def isTga (s : ByteArray) : Bool := decide (18 ≤ s.size) && (chkS s).is
set_option maxRecDepth 100000 in
set_option maxHeartbeats 4000000 in
theorem tis_any (s : ByteArray) (w : World) (hs : s.size ≤ 9223372036854775807) : Calls Tryz.prog 47 #[.string s] w fun e w' => e = .returned (.bool (isTga s)) ∧ Below w.heap.size w w' := by
  by_cases h : s.size < 18
  · have D0 : decide ((s.size : Int) < 18) = true := by rw [decide_eq_true_iff]; omega
    have E := Hi (show isTga s = false by unfold isTga; rw [decide_eq_false (by omega)]; rfl)
    go_enter Tryz.func47, Tryz.ntmps47
    go_wp2
    go_ret
    exact ⟨ret_b E.out.symm, Below.refl _ _⟩
  · have D0 : decide ((s.size : Int) < 18) = false := by rw [decide_eq_false_iff_not]; omega
    have h18 : 18 ≤ s.size := by omega
    obtain ⟨c, hc⟩ : ∃ c, chkS s = c := ⟨_, rfl⟩
    have E := Hi (show isTga s = c.is by unfold isTga; rw [decide_eq_true h18, hc]; rfl)
    have HC := Hi (fun w0 => checks_c s c w0 h18 hc)
    clear hc
    go_enter Tryz.func47, Tryz.ntmps47
    go_wp2_with (go_at_call 59; (with_reducible refine (HC.out _).mono ?_); rintro e w1 ⟨B, T, rfl, hO, hB, hb⟩)
    have HB := Hi hb
    have HO := Hi hO
    have lB := hO.lt
    clear hb hO
    go_loopw [4, 12] (fun q4 q12 wr => ∃ i : Nat, i ≤ 12 ∧ q12 = .int .i64 i ∧ c.is = c.isFrom (12 - i) i ∧ Below w1.heap.size w1 wr) (fun _ q12 _ => 12 - (intOf q12).toNat)
    case atStart => exact ⟨0, by omega, rfl, rfl, Below.refl _ _⟩
    case round =>
      obtain ⟨i, hi, rfl, hf, hb⟩ := hrel
      have Hb := Hi hb
      have Hf := Hi hf
      clear hb hf
      by_cases hlt : i < 12
      · have D1 : decide ((i : Int) < 12) = true := by rw [decide_eq_true_iff]; omega
        obtain ⟨r0, r1, r2, r3⟩ := c.row_cells i hlt
        obtain ⟨⟨wr0, kd, at0, lo⟩, hrow⟩ : ∃ r, c.row i = r := ⟨_, rfl⟩
        have HO2 := HO.out.below Hb.out lB
        rw [hrow] at r0 r1 r2 r3
        have c0 : wr.cell? ⟨B, i * 4, none⟩ = some (.bool wr0) := (HO2.cell _).trans r0
        have c1 : wr.cell? ⟨B, i * 4 + 1, none⟩ = some (.int .i64 kd) := (HO2.cell _).trans r1
        have c2 : wr.cell? ⟨B, i * 4 + 2, none⟩ = some (.int .i64 at0) := (HO2.cell _).trans r2
        have c3 : wr.cell? ⟨B, i * 4 + 3, none⟩ = some (.bool lo) := (HO2.cell _).trans r3
        have HROW := Hi hrow
        clear r0 r1 r2 r3 HO2 hrow
        cases wr0 <;> cases lo
        all_goals go_wp2_with fail
        · exact ⟨⟨i + 1, by omega, by go_num, Hf.out.trans (c.is_next hlt HROW.out rfl), Hb.out.alloc Hb.out.size _⟩, by simp [intOf]; omega⟩
        · exact ⟨⟨i + 1, by omega, by go_num, Hf.out.trans (c.is_next hlt HROW.out rfl), Hb.out.alloc Hb.out.size _⟩, by simp [intOf]; omega⟩
        · go_ret
          exact ⟨ret_b (by rw [E.out, Hf.out, c.is_bad hlt HROW.out rfl]), bthen (Hb.out.alloc Hb.out.size _) HB.out HB.out.size⟩
        · exact ⟨⟨i + 1, by omega, by go_num, Hf.out.trans (c.is_next hlt HROW.out rfl), Hb.out.alloc Hb.out.size _⟩, by simp [intOf]; omega⟩
      · obtain rfl : i = 12 := by omega
        have D1 : decide (((12 : Nat) : Int) < 12) = false := by decide
        go_wp2_with fail
        go_ret
        exact ⟨ret_b (by rw [E.out, Hf.out]; rfl), bthen Hb.out HB.out HB.out.size⟩
end Go.Proofs.YtcjjfnghgajefaaGreat
namespace Go
theorem gen_frame {P : Program} {ops : Array Oper} {Q : Exit → Act → World → Prop} {a : Act} {w : World} (p : Nat) (v : Value) (hv : a.tmps.getD p undef = v) (hd : a.defers = [])
    (h : ∀ A : Act, A.tmps.getD p undef = v → A.defers = [] → wpList P ops Q [] A w) : wpList P ops Q [] a w := h a hv hd
end Go
namespace Go.Proofs.YtcjjfnghgajefaaGreat
open Go.RowKit
set_option linter.unusedVariables false
set_option linter.unusedSimpArgs false
def RA (w : World) (L : List Value) (e : Ending) (w' : World) : Prop := e = .returned (.agg L.toArray) ∧ Below w.heap.size w w'
theorem Stored.chg {S : Nat → Prop} {a w w2 : World} {b o : Nat} {vs : List Value} (hst : Stored w b o vs w2) (h : Chg S a w) (hb : a.heap.size ≤ b) : Chg S a w2 := by
  rw [show w2 = _ from hst]; clear hst
  induction vs generalizing w o with
  | nil => exact h
  | cons v r ih => rw [World.setCells]; exact ih (h.set _ _ (Or.inr hb))
theorem Pair.into {w w2 : World} {X b o : Nat} {vs : List Value} {x : Sr} {l : Led} (h : Pair w X x l) (hst : Stored w b o vs w2) (h1 : X ≠ b) (h2 : x.L ≠ b) : Pair w2 X x l :=
  ⟨⟨hst.oth h.src.obj h1, h.src.ok, h.src.ne⟩, ⟨hst.oth h.led.obj h2, h.led.ok⟩⟩
theorem Pair.upon {B : Nat} {w w' : World} {X : Nat} {x : Sr} {l : Led} (h : Pair w X x l) (hb : Below B w w') (h1 : X < B) (h2 : x.L < B) : Pair w' X x l := ⟨⟨h.src.obj.below hb h1, h.src.ok, h.src.ne⟩, ⟨h.led.obj.below hb h2, h.led.ok⟩⟩
theorem load_og {P : Program} {ops : Array Oper} {rest : List Oper} {op : Oper} {a : Act} {w : World} {Q : Exit → Act → World → Prop} (hw : Region.wanted op (yielded ops a.tmps) = true) (ty : TypeId) (n : Nat) (x : Operand) (ho : op.op = .load ty x)
    (b : Nat) (YS : List Value) (hl : YS.length = n) (hx : a.eval x = .pointer (some ⟨b, 0, none⟩)) {T : TypeId} (hO : Obj1 w b YS.toArray T) {d : TypeDesc} (hu : P.underlying ty = some d) (hd : d.isRow = true) (hi : (P.info? ty).map (·.size) = some n)
    (h : wpList P ops Q rest (a.put op.dst (.agg YS.toArray)) w) : wpList P ops Q (op :: rest) a w := by
  rw [wpList, if_pos hw]
  exact Or.inl (wp_load_mid ty x ho b 0 hx YS d hO.range0 hu hd (by rw [hl]; exact hi) h)
end Go.Proofs.YtcjjfnghgajefaaGreat
namespace Go.Proofs.YtcjjfnghgajefaaGreat
open Go.RowKit
set_option linter.unusedVariables false
theorem skip_g {P : Program} {ops : Array Oper} {rest : List Oper} {op : Oper} {a : Act} {w : World} {Q : Exit → Act → World → Prop} {g : Nat × Bool} (hg : op.guard = some g) (hw : Region.wanted op (yielded ops a.tmps) = false) (h : Unit → wpList P ops Q rest (a.put op.dst undef) w) : wpList P ops Q (op :: rest) a w := by
  rw [wpList, if_neg (by simp [hw])]; exact h ()
theorem load_u {P : Program} {ops : Array Oper} {rest : List Oper} {op : Oper} {a : Act} {w : World} {Q : Exit → Act → World → Prop} (hw : Region.wanted op (yielded ops a.tmps) = true) (ty : TypeId) (n : Nat) (x : Operand) (ho : op.op = .load ty x)
    (b : Nat) (YS : List Value) (hl : YS.length = n) (hx : a.eval x = .pointer (some ⟨b, 0, none⟩)) {T : TypeId} (hO : Obj1 w b YS.toArray T) {d : TypeDesc} (hu : P.underlying ty = some d) (hd : d.isRow = true) (hi : (P.info? ty).map (·.size) = some n)
    (h : Unit → wpList P ops Q rest (a.put op.dst (.agg YS.toArray)) w) : wpList P ops Q (op :: rest) a w := load_og hw ty n x ho b YS hl hx hO hu hd hi (h ())
theorem Obj1.cells {w : World} {b : Nat} {cs cs' : Array Value} {T : TypeId} (h : Obj1 w b cs T) (e : cs = cs') : Obj1 w b cs' T := e ▸ h
theorem Pair.alloc {w : World} {X : Nat} {x : Sr} {l : Led} (h : Pair w X x l) (o : Obj) : Pair (w.alloc o) X x l :=
  h.upon ((Below.refl w.heap.size w).alloc (Nat.le_refl _) o) h.src.lt h.led.lt
theorem Pair.drew1 {w : World} {X : Nat} {x : Sr} {l : Led} (h : Pair w X x l) : Pair w.drew X x l := ⟨⟨h.src.obj.drew, h.src.ok, h.src.ne⟩, ⟨h.led.obj.drew, h.led.ok⟩⟩
end Go.Proofs.YtcjjfnghgajefaaGreat
namespace Go.Proofs.YtcjjfnghgajefaaGreat
open Go.RowKit
set_option linter.unusedVariables false
set_option linter.unusedSimpArgs false
def tblankB (b : Int) : Bool := decide (b = 32 ∨ (9 ≤ b ∧ b ≤ 13))
def endB (b : Int) : Bool := decide (b = 10 ∨ b = 13)
theorem tblank_any (b : Int) (w : World) : Calls Tryz.prog 79 #[.int .i64 b] w fun e w' => e = .returned (.bool (tblankB b)) ∧ w = w' := by
  have hc : b = 32 ∨ b = 9 ∨ b = 10 ∨ b = 11 ∨ b = 12 ∨ b = 13 ∨ (b ≠ 32 ∧ b ≠ 9 ∧ b ≠ 10 ∧ b ≠ 11 ∧ b ≠ 12 ∧ b ≠ 13) := by omega
  rcases hc with rfl | rfl | rfl | rfl | rfl | rfl | ⟨h1, h2, h3, h4, h5, h6⟩
  iterate 6
    · go_enter Tryz.func79, Tryz.ntmps79
      go_wp2
      go_ret
      exact ⟨rfl, rfl⟩
  · have E := Hi (show tblankB b = false by unfold tblankB; rw [decide_eq_false_iff_not]; omega)
    rw [E.out]
    have g1 : (b == 32) = false := by rw [beq_eq_false_iff_ne]; exact h1
    have g2 : (b == 9) = false := by rw [beq_eq_false_iff_ne]; exact h2
    have g3 : (b == 10) = false := by rw [beq_eq_false_iff_ne]; exact h3
    have g4 : (b == 11) = false := by rw [beq_eq_false_iff_ne]; exact h4
    have g5 : (b == 12) = false := by rw [beq_eq_false_iff_ne]; exact h5
    have g6 : (b == 13) = false := by rw [beq_eq_false_iff_ne]; exact h6
    clear h1 h2 h3 h4 h5 h6
    go_enter Tryz.func79, Tryz.ntmps79
    go_wp2
    go_ret
    exact ⟨rfl, rfl⟩
def pf (t : Int × Int) : List Value := [.int .i64 t.1, .int .i64 (if t.1 = 0 then 0 else 3), .int .i64 t.2]
def Sr.ftc (x : Sr) (l : Led) : Int × Int := if l.br = true then (4, x.p) else (1, x.e)
theorem ftc_ne (x : Sr) (l : Led) : (x.ftc l).1 ≠ 0 := by
  unfold Sr.ftc
  split
  · show (4 : Int) ≠ 0; decide
  · show (1 : Int) ≠ 0; decide
theorem fault_pf (x : Sr) (l : Led) : x.fault l 3 = .agg (pf (x.ftc l)).toArray := by unfold Sr.fault Sr.ftc; split <;> rfl
abbrev SL := Sr × Led
def overM : Nat → Sr → Led → Bool → SL × (Int × Int)
  | 0, x, l, _ => ((x, l), (0, 0))
  | f + 1, x, l, rm =>
    if (x.next l 1).2.2 = false then ((x.next l 1).1, if (x.next l 1).1.2.br = true then (x.next l 1).1.1.ftc (x.next l 1).1.2 else (0, 0))
    else if rm = true then overM f (x.next l 1).1.1 (x.next l 1).1.2 (!endB (byN x.s x.p))
    else if byN x.s x.p = 35 then overM f (x.next l 1).1.1 (x.next l 1).1.2 true
    else if tblankB (byN x.s x.p) = true then overM f (x.next l 1).1.1 (x.next l 1).1.2 false
    else ((x, (x.next l 1).1.2), (0, 0))
def Sr.fu (x : Sr) : Nat := x.e + 1 - x.p
def Sr.over (x : Sr) (l : Led) : SL × (Int × Int) := overM x.fu x l false
def digitsM : Nat → Sr → Led → Int → SL × (Int × (Int × Int))
  | 0, x, l, v => ((x, l), (v, (0, 0)))
  | f + 1, x, l, v =>
    if x.e ≤ x.p then ((x, l), (v, (0, 0)))
    else if (x.next l 1).2.2 = false then ((x.next l 1).1, (0, (x.next l 1).1.1.ftc (x.next l 1).1.2))
    else if byN x.s x.p < 48 ∨ 57 < byN x.s x.p then ((x, (x.next l 1).1.2), (v, (0, 0)))
    else digitsM f (x.next l 1).1.1 (x.next l 1).1.2 (min (10 * v + byN x.s x.p - 48) 1000000000)
def Sr.digits (x : Sr) (l : Led) (v : Int) : SL × (Int × (Int × Int)) := digitsM x.fu x l v
def Sr.first (x : Sr) (l : Led) : SL × ((Int × Int) × (Int × Int)) :=
  if (x.over l).2.1 ≠ 0 then ((x.over l).1, ((0, 0), (x.over l).2))
  else if ((x.over l).1.1.next (x.over l).1.2 1).2.2 = false then (((x.over l).1.1.next (x.over l).1.2 1).1, ((0, 0), ((x.over l).1.1.next (x.over l).1.2 1).1.1.ftc ((x.over l).1.1.next (x.over l).1.2 1).1.2))
  else (((x.over l).1.1.next (x.over l).1.2 1).1, ((byN x.s (x.over l).1.1.p, (x.over l).1.1.p), (0, 0)))
def Sr.number (x : Sr) (l : Led) : SL × ((Int × Int) × (Int × Int)) :=
  if (x.first l).2.2.1 ≠ 0 then ((x.first l).1, ((0, 0), (x.first l).2.2))
  else if (x.first l).2.1.1 < 48 ∨ 57 < (x.first l).2.1.1 then ((x.first l).1, ((0, 0), (2, (x.first l).2.1.2)))
  else if ((x.first l).1.1.digits (x.first l).1.2 ((x.first l).2.1.1 - 48)).2.2.1 ≠ 0 then (((x.first l).1.1.digits (x.first l).1.2 ((x.first l).2.1.1 - 48)).1, ((0, 0), ((x.first l).1.1.digits (x.first l).1.2 ((x.first l).2.1.1 - 48)).2.2))
  else (((x.first l).1.1.digits (x.first l).1.2 ((x.first l).2.1.1 - 48)).1, ((((x.first l).1.1.digits (x.first l).1.2 ((x.first l).2.1.1 - 48)).2.1, (x.first l).2.1.2), (0, 0)))
def Sr.one (x : Sr) (l : Led) : SL × (Int × Int) :=
  if (x.next l 1).2.2 = false then ((x.next l 1).1, (x.next l 1).1.1.ftc (x.next l 1).1.2)
  else if tblankB (byN x.s x.p) = false then ((x.next l 1).1, (2, x.p))
  else ((x.next l 1).1, (0, 0))
/-! ### a byte -/
theorem Pair.drN {w : World} {X : Nat} {x : Sr} {l : Led} (h : Pair w X x l) (n : Nat) : Pair (w.drewN n) X x l := ⟨h.src.drewN n, h.led.drewN n⟩
theorem num_b1 (s : ByteArray) (p : Nat) (h : p < s.size) : numB (s.extract p (p + 1)) true = byN s p := by
  have hz : (s.extract p (p + 1)).size = 1 := by rw [ByteArray.size_extract]; omega
  unfold numB
  rw [if_pos rfl, hz]
  show (0 : Int) + byN (s.extract p (p + 1)) 0 * 2 ^ 0 = _
  have : byN (s.extract p (p + 1)) 0 = byN s p := by
    rw [← byN_get _ 0 (by omega), ← byN_get s p h]
    congr 2
    rw [ByteArray.getElem_extract]; rfl
  rw [this]; simp
theorem n1_ok {x : Sr} {l : Led} (hx : x.ok) (h : (x.next l 1).2.2 = true) : x.p < x.e ∧ (x.next l 1).1.1 = { x with p := x.p + 1 } ∧ numB (x.next l 1).2.1 true = byN x.s x.p := by
  obtain ⟨h1, h2, h3, h4, h5, h6⟩ := next_ok h
  have := hx.es
  refine ⟨by omega, h4, ?_⟩
  rw [h6]
  exact num_b1 x.s x.p (by omega)
theorem n1_no {x : Sr} {l : Led} (h : (x.next l 1).2.2 = false) : (x.next l 1).1.1 = x ∧ numB (x.next l 1).2.1 true = 0 := by
  obtain ⟨h1, h2, h3, h4⟩ := next_bad h
  exact ⟨h1, by rw [h3]; rfl⟩
def U8Yes (w : World) (X : Nat) (x : Sr) (m : Led) (e : Ending) (w' : World) : Prop := e = .returned (.tuple #[.int .i64 (byN x.s x.p), .bool true]) ∧ Pair w' X { x with p := x.p + 1 } m ∧ Chg (two X x) w w'
def U8No (w : World) (X : Nat) (x : Sr) (m : Led) (e : Ending) (w' : World) : Prop := e = .returned (.tuple #[.int .i64 0, .bool false]) ∧ Pair w' X x m ∧ Chg (two X x) w w'
theorem u8_yes (X : Nat) (x : Sr) (l : Led) (w : World) (h : Pair w X x l) (hok : (x.next l 1).2.2 = true) : Calls Tryz.prog 99 #[.pointer (some ⟨X, 0, none⟩)] w (U8Yes w X x (x.next l 1).1.2) := by
  refine (u8_any X x l w h).mono ?_
  rintro e w' ⟨he, hp, hc⟩
  obtain ⟨h1, h2, h3⟩ := n1_ok h.src.ok hok
  rw [hok, h3] at he
  rw [h2] at hp
  exact ⟨he, hp, hc⟩
theorem u8_no (X : Nat) (x : Sr) (l : Led) (w : World) (h : Pair w X x l) (hok : (x.next l 1).2.2 = false) : Calls Tryz.prog 99 #[.pointer (some ⟨X, 0, none⟩)] w (U8No w X x (x.next l 1).1.2) := by
  refine (u8_any X x l w h).mono ?_
  rintro e w' ⟨he, hp, hc⟩
  obtain ⟨h2, h3⟩ := n1_no hok
  rw [hok, h3] at he
  rw [h2] at hp
  exact ⟨he, hp, hc⟩
theorem seek_back (X : Nat) (x : Sr) (l : Led) (w : World) (h : Pair w X { x with p := x.p + 1 } l) (hx : x.ok) : Calls Tryz.prog 109 #[.pointer (some ⟨X, 0, none⟩), .int .i64 x.p] w fun e w' => e = .returned (.bool true) ∧ Pair w' X x l ∧ Chg (two X x) w w' := by
  refine (seek_any X { x with p := x.p + 1 } l x.p w h).mono ?_
  have h1 := hx.bp
  have h2 := hx.pe
  have e : Sr.seek { x with p := x.p + 1 } x.p = (x, true) := by
    unfold Sr.seek
    rw [if_neg (by show ¬ ((x.p : Int) < x.b ∨ (x.e : Int) < x.p); omega)]
    rfl
  rintro e' w' ⟨he, hp, hc⟩
  rw [e] at he hp
  exact ⟨he, hp, hc⟩
theorem faultp_any (X : Nat) (x : Sr) (l : Led) (w : World) (h : Pair w X x l) : Calls Tryz.prog 50 #[.pointer (some ⟨X, 0, none⟩), .int .i64 3] w fun e w' => e = .returned (.agg (pf (x.ftc l)).toArray) ∧ Below w.heap.size w w' := by
  have := fault_any X x l 3 w h
  rw [fault_pf] at this
  exact this
theorem tend_any (b : Int) (w : World) : Calls Tryz.prog 140 #[.int .i64 b] w fun e w' => e = .returned (.bool (endB b)) ∧ w = w' := by
  rcases (show b = 10 ∨ b = 13 ∨ (b ≠ 10 ∧ b ≠ 13) by omega) with rfl | rfl | ⟨h1, h2⟩
  · go_enter Tryz.func140, Tryz.ntmps140
    go_wp2_with ((with_reducible refine skip_g rfl ?_ ?_); rfl; intro _)
    go_ret
    exact ⟨rfl, rfl⟩
  · go_enter Tryz.func140, Tryz.ntmps140
    go_wp2
    go_ret
    exact ⟨rfl, rfl⟩
  · have E := Hi (show endB b = false by unfold endB; rw [decide_eq_false_iff_not]; omega)
    rw [E.out]
    have g1 : (b == 10) = false := by rw [beq_eq_false_iff_ne]; exact h1
    have g2 : (b == 13) = false := by rw [beq_eq_false_iff_ne]; exact h2
    clear h1 h2
    go_enter Tryz.func140, Tryz.ntmps140
    go_wp2
    go_ret
    exact ⟨rfl, rfl⟩
theorem twrong_any (p : Int) (w : World) : Calls Tryz.prog 102 #[.int .i64 p] w fun e w' => e = .returned (.agg (pf (2, p)).toArray) ∧ Below w.heap.size w w' := by
  go_enter Tryz.func102, Tryz.ntmps102
  go_wp2
  refine bodyPost_ret (v := .agg (pf (2, p)).toArray) (by simp [results, Tryz.results102, go_sem, pf]) rfl ⟨rfl, ?_⟩
  exact (Below.refl _ _).alloc (Nat.le_refl _) _
end Go.Proofs.YtcjjfnghgajefaaGreat
