/- probe.begin of no bytes, walked. -/
import Derived.Test.YtapdgfeekipidaaGreatDoorK2
import Derived.Deep.CutRange
import Derived.Test.YtapdgfeekipidaaGreatDoorK0
namespace Go
section
variable {P : Program} {ops : Array Oper} {Q : Exit → Act → World → Prop} {md : Region.Mode} {S S2 : World → Prop}
theorem wpAnyH_more (h : ∀ w, S2 w → S w) : ∀ (fuel : Nat) (listed : Array Bool) (a : Act) (w : World), wpAnyH P md ops Q S2 fuel listed a w → wpAnyH P md ops Q S fuel listed a w
  | 0, _, _, _, hh => hh
  | fuel + 1, _, _, _, hh => ⟨hh.1, fun i hi => wpOp_mono (fun a' w' h' => ⟨h w' h'.1, wpAnyH_more h fuel _ a' w' h'.2⟩) (hh.2 i hi)⟩
end
end Go
namespace Go.Proofs.YtapdgfeekipidaaGreatDoor
open Go.RowKit
set_option linter.unusedVariables false
set_option linter.unusedSimpArgs false
attribute [local go_sem] Oper.semAt_some
theorem ownFrom_atR {β : Type} {B k : Nat} (o : β → Obj) (hk : k < B) : OwnFrom B (fun s X => X.heap[k]? = some (o s)) := fun s X Y row hs hg hr =>
  (hg.block k (Array.getElem?_eq_some_iff.1 hs).1 (fun e => by have := (hr k e.symm).1; omega)).trans hs
def Begin0 (w : World) (e : Ending) (w' : World) : Prop := ∃ B : Nat, e = .returned (.slice (some ⟨B, 0, none⟩) 2 2) ∧ Obj1 w' B #[.string ⟨#[98, 121, 116, 101, 115, 32, 48]⟩, .string ⟨#[102, 111, 114, 109, 97, 116, 32, 117, 110, 107, 110, 111, 119, 110]⟩] 9 ∧ w.heap.size ≤ B ∧ Below w.heap.size w w'
set_option maxRecDepth 100000 in
set_option maxHeartbeats 16000000 in
theorem begin0 (w : World) : Calls Tryz.prog 8 #[.string ⟨#[]⟩] w (Begin0 w) := by
  have H1 := Hi (fun w0 => (show Calls Tryz.prog 16 #[.string ⟨#[]⟩] w0 (fun e w' => e = .returned (.int .i64 0) ∧ Below w0.heap.size w0 w') from (sformat_any ⟨#[]⟩ w0 (by decide +kernel)).mono fun e w' hh => ⟨hh.1.trans (by rw [show firstOf (allTo ⟨#[]⟩ 8) = 0 by decide +kernel]), hh.2⟩))
  have HF := Hi (fun w0 => format0 w0)
  have HL1 := Hi (fun B w0 hc => (show Calls Tryz.prog 10 #[.string ⟨#[98, 121, 116, 101, 115]⟩, .slice (some ⟨B, 0, none⟩) 1 1] w0 (fun e w' => e = .returned (.string ⟨#[98, 121, 116, 101, 115, 32, 48]⟩) ∧ w' = w0) from (line_int ⟨#[98, 121, 116, 101, 115]⟩ B w0 (by decide) hc).mono fun e w' hh => ⟨hh.1.trans (by kernel_rfl), hh.2⟩))
  have HL2 := Hi (fun B w0 hc => (show Calls Tryz.prog 10 #[.string ⟨#[102, 111, 114, 109, 97, 116]⟩, .slice (some ⟨B, 0, none⟩) 1 1] w0 (fun e w' => e = .returned (.string ⟨#[102, 111, 114, 109, 97, 116, 32, 117, 110, 107, 110, 111, 119, 110]⟩) ∧ w' = w0) from (line_str ⟨#[102, 111, 114, 109, 97, 116]⟩ ⟨#[117, 110, 107, 110, 111, 119, 110]⟩ B w0 (by decide) (by decide) hc).mono fun e w' hh => ⟨hh.1.trans (by kernel_rfl), hh.2⟩))
  have HA := Hi (fun w0 => sall_any ⟨#[]⟩ w0)
  refine (callsIn_wide (n := 5)).1 ?_
  refine callsIn_of_wp_marks Tryz.func8 rfl trivial ?_ rfl
  refine wpIn_wide.2 ?_
  simp only [Tryz.ntmps8, List.size_toArray, List.length_cons, List.length_nil, Nat.reduceAdd, Nat.reduceSub, Array.replicate_succ, Array.replicate_zero, List.push_toArray, List.append_toArray, List.nil_append, List.cons_append]
  go_upto_region 2 with ((go_at_call 16; (with_reducible refine (H1.out _).mono ?_); rintro e w1 ⟨rfl, hb⟩); have BL := Hi hb; clear hb)
  have zF : w.heap.size ≤ w1.heap.size := BL.out.size
  have OF := Hi (obj1_new w1 #[.int .i64 0] 3)
  have BL := Hi (BL.out.alloc BL.out.size (.cells #[.int .i64 0] 3))
  obtain ⟨F, hF⟩ : ∃ F, w1.heap.size = F := ⟨_, rfl⟩
  rw [hF] at OF zF ⊢
  clear hF
  generalize World.alloc _ _ = w2 at OF BL ⊢
  have LF := OF.out.lt
  go_cut [4] from 8 to 18 (fun c wx => ∃ A B3 : Nat, c = .pointer (some ⟨A, 0, none⟩) ∧ Obj1 wx F #[.int .i64 0] 3 ∧ Obj1 wx A #[.slice (some ⟨B3, 0, none⟩) 2 2] 22 ∧ Obj1 wx B3 #[.string ⟨#[98, 121, 116, 101, 115, 32, 48]⟩, .string ⟨#[102, 111, 114, 109, 97, 116, 32, 117, 110, 107, 110, 111, 119, 110]⟩] 9 ∧ F < A ∧ F < B3 ∧ Below w.heap.size w wx)
  case first =>
    refine wp_region_noPanic ?_
    refine wp_region_held_drew (S := fun w' : World => w'.cell? ⟨F, 0, none⟩ = some (.int .i64 0)) (by kernel_rfl) ((OF.out.cell 0).trans rfl) (fun hHeld => ?_)
    have OF := Hi OF.out.drew
    have BL := Hi BL.out.drew
    have LF := OF.out.lt
    generalize World.drew _ = wk at OF BL LF hHeld ⊢
    refine wpAnyH_take (i := 0) (v := .string ⟨#[]⟩) rfl (by kernel_rfl) (by kernel_rfl) (by kernel_rfl) (fun _ _ _ h => h) (Or.inl ⟨by rfl, fun w hS => by go_simp⟩) hHeld ?_
    try simp only [Act.put, zq1, zq2, zq3, zq4, zq5, zq6]
    refine wpAnyH_take (i := 1) (v := .int .i64 0) rfl (by kernel_rfl) (by kernel_rfl) (by kernel_rfl) (fun _ _ _ h => h) (Or.inl ⟨by rfl, fun w hS => by go_simp⟩) hHeld ?_
    try simp only [Act.put, zq1, zq2, zq3, zq4, zq5, zq6]
    refine wpAnyH_take (i := 2) (v := .iface 3 (.int .i64 0)) rfl (by kernel_rfl) (by kernel_rfl) (by kernel_rfl) (fun _ _ _ h => h) (Or.inl ⟨by rfl, fun w hS => by go_simp⟩) hHeld ?_
    try simp only [Act.put, zq1, zq2, zq3, zq4, zq5, zq6]
    refine wpAnyH_take (i := 5) (v := .int .i64 0) rfl (by kernel_rfl) (by kernel_rfl) (by kernel_rfl) (fun _ _ _ h => h) (Or.inl ⟨by rfl, fun w hS => by have h1 : w.cell? ⟨F, 0, none⟩ = some (.int .i64 0) := hS; go_simp⟩) hHeld ?_
    try simp only [Act.put, zq1, zq2, zq3, zq4, zq5, zq6]
    refine wpAnyH_ready (rs := [3, 11]) (by kernel_rfl) (by simp) ?_
    refine AllReadyH.cons (o := _) rfl (fun K' hK => ?_) (AllReadyH.cons (o := _) rfl (fun K' hK => ?_) AllReadyH.nil)
    ·
      go_simp
      have OB1 := Hi (obj1_new wk #[.iface 3 (.int .i64 0)] 20)
      have OF := Hi (OF.out.alloc (.cells #[.iface 3 (.int .i64 0)] 20))
      have BL := Hi (BL.out.alloc BL.out.size (.cells #[.iface 3 (.int .i64 0)] 20))
      obtain ⟨B1, hB1⟩ : ∃ e, wk.heap.size = e := ⟨_, rfl⟩
      have nB1F : F < B1 := by rw [← hB1]; exact LF
      have LF := OF.out.lt
      have LB1 := OB1.out.lt
      rw [hB1] at OB1 LB1 ⊢
      clear hB1
      generalize World.alloc wk _ = wk2 at OF BL OB1 LF LB1 ⊢
      refine hK _ _ ((OF.out.cell 0).trans rfl) (fun hH => ?_)
      clear hK K'
      try simp only [Act.put, zq1, zq2, zq3, zq4, zq5, zq6]
      obtain ⟨wk, rfl⟩ : ∃ z, z = wk2 := ⟨_, rfl⟩
      refine wpAnyH_more (S2 := fun w' : World => w'.cell? ⟨F, 0, none⟩ = some (.int .i64 0) ∧ w'.cell? ⟨B1, 0, none⟩ = some (.iface 3 (.int .i64 0))) (fun _ h => h.1) _ _ _ _ ?_
      replace hH := (show (fun w' : World => w'.cell? ⟨F, 0, none⟩ = some (.int .i64 0) ∧ w'.cell? ⟨B1, 0, none⟩ = some (.iface 3 (.int .i64 0))) wk from ⟨(OF.out.cell 0).trans rfl, (OB1.out.cell 0).trans rfl⟩)
      refine wpAnyH_call2 (i := 4) (v := .string ⟨#[98, 121, 116, 101, 115, 32, 48]⟩) rfl (by kernel_rfl) (by kernel_rfl) (by kernel_rfl) (fun _ _ _ h => h) (Or.inr ⟨by rfl, fun wx hx => ⟨10, #[.string ⟨#[98, 121, 116, 101, 115]⟩, .slice (some ⟨B1, 0, none⟩) 1 1], by kernel_rfl, HL1.out B1 wx hx.2⟩⟩) hH ?_
      try simp only [Act.put, zq1, zq2, zq3, zq4, zq5, zq6]
      refine wpAnyH_call2 (i := 6) (v := .string ⟨#[117, 110, 107, 110, 111, 119, 110]⟩) rfl (by kernel_rfl) (by kernel_rfl) (by kernel_rfl) (fun _ _ _ h => h) (Or.inr ⟨by rfl, fun wx hx => ⟨17, #[.int .i64 0], by kernel_rfl, HF.out wx⟩⟩) hH ?_
      try simp only [Act.put, zq1, zq2, zq3, zq4, zq5, zq6]
      refine wpAnyH_take (i := 7) (v := .iface 9 (.string ⟨#[117, 110, 107, 110, 111, 119, 110]⟩)) rfl (by kernel_rfl) (by kernel_rfl) (by kernel_rfl) (fun _ _ _ h => h) (Or.inl ⟨by rfl, fun w hS => by go_simp⟩) hH ?_
      try simp only [Act.put, zq1, zq2, zq3, zq4, zq5, zq6]
      refine wpAnyH_ready (rs := [8, 11]) (by kernel_rfl) (by simp) ?_
      refine AllReadyH.cons (o := _) rfl (fun K' hK => ?_) (AllReadyH.cons (o := _) rfl (fun K' hK => ?_) AllReadyH.nil)
      ·
        go_simp
        have OB2 := Hi (obj1_new wk #[.iface 9 (.string ⟨#[117, 110, 107, 110, 111, 119, 110]⟩)] 20)
        have OF := Hi (OF.out.alloc (.cells #[.iface 9 (.string ⟨#[117, 110, 107, 110, 111, 119, 110]⟩)] 20))
        have OB1 := Hi (OB1.out.alloc (.cells #[.iface 9 (.string ⟨#[117, 110, 107, 110, 111, 119, 110]⟩)] 20))
        have BL := Hi (BL.out.alloc BL.out.size (.cells #[.iface 9 (.string ⟨#[117, 110, 107, 110, 111, 119, 110]⟩)] 20))
        obtain ⟨B2, hB2⟩ : ∃ e, wk.heap.size = e := ⟨_, rfl⟩
        have nB2F : F < B2 := by rw [← hB2]; exact LF
        have nB2B1 : B1 < B2 := by rw [← hB2]; exact LB1
        have LF := OF.out.lt
        have LB1 := OB1.out.lt
        have LB2 := OB2.out.lt
        rw [hB2] at OB2 LB2 ⊢
        clear hB2
        generalize World.alloc wk _ = wk2 at OF BL OB2 OB1 LB1 LF LB2 ⊢
        refine hK _ _ (⟨(OF.out.cell 0).trans rfl, (OB1.out.cell 0).trans rfl⟩) (fun hH => ?_)
        clear hK K'
        try simp only [Act.put, zq1, zq2, zq3, zq4, zq5, zq6]
        obtain ⟨wk, rfl⟩ : ∃ z, z = wk2 := ⟨_, rfl⟩
        refine wpAnyH_more (S2 := fun w' : World => w'.cell? ⟨F, 0, none⟩ = some (.int .i64 0) ∧ w'.cell? ⟨B1, 0, none⟩ = some (.iface 3 (.int .i64 0)) ∧ w'.cell? ⟨B2, 0, none⟩ = some (.iface 9 (.string ⟨#[117, 110, 107, 110, 111, 119, 110]⟩))) (fun _ h => ⟨h.1, h.2.1⟩) _ _ _ _ ?_
        replace hH := (show (fun w' : World => w'.cell? ⟨F, 0, none⟩ = some (.int .i64 0) ∧ w'.cell? ⟨B1, 0, none⟩ = some (.iface 3 (.int .i64 0)) ∧ w'.cell? ⟨B2, 0, none⟩ = some (.iface 9 (.string ⟨#[117, 110, 107, 110, 111, 119, 110]⟩))) wk from ⟨(OF.out.cell 0).trans rfl, (OB1.out.cell 0).trans rfl, (OB2.out.cell 0).trans rfl⟩)
        refine wpAnyH_call2 (i := 9) (v := .string ⟨#[102, 111, 114, 109, 97, 116, 32, 117, 110, 107, 110, 111, 119, 110]⟩) rfl (by kernel_rfl) (by kernel_rfl) (by kernel_rfl) (fun _ _ _ h => h) (Or.inr ⟨by rfl, fun wx hx => ⟨10, #[.string ⟨#[102, 111, 114, 109, 97, 116]⟩, .slice (some ⟨B2, 0, none⟩) 1 1], by kernel_rfl, HL2.out B2 wx hx.2.2⟩⟩) hH ?_
        try simp only [Act.put, zq1, zq2, zq3, zq4, zq5, zq6]
        refine wpAnyH_ready (rs := [10, 11]) (by kernel_rfl) (by simp) ?_
        refine AllReadyH.cons (o := _) rfl (fun K' hK => ?_) (AllReadyH.cons (o := _) rfl (fun K' hK => ?_) AllReadyH.nil)
        ·
          go_simp
          have OB3 := Hi (obj1_new wk #[.string ⟨#[98, 121, 116, 101, 115, 32, 48]⟩, .string ⟨#[102, 111, 114, 109, 97, 116, 32, 117, 110, 107, 110, 111, 119, 110]⟩] 9)
          have OF := Hi (OF.out.alloc (.cells #[.string ⟨#[98, 121, 116, 101, 115, 32, 48]⟩, .string ⟨#[102, 111, 114, 109, 97, 116, 32, 117, 110, 107, 110, 111, 119, 110]⟩] 9))
          have OB1 := Hi (OB1.out.alloc (.cells #[.string ⟨#[98, 121, 116, 101, 115, 32, 48]⟩, .string ⟨#[102, 111, 114, 109, 97, 116, 32, 117, 110, 107, 110, 111, 119, 110]⟩] 9))
          have OB2 := Hi (OB2.out.alloc (.cells #[.string ⟨#[98, 121, 116, 101, 115, 32, 48]⟩, .string ⟨#[102, 111, 114, 109, 97, 116, 32, 117, 110, 107, 110, 111, 119, 110]⟩] 9))
          have BL := Hi (BL.out.alloc BL.out.size (.cells #[.string ⟨#[98, 121, 116, 101, 115, 32, 48]⟩, .string ⟨#[102, 111, 114, 109, 97, 116, 32, 117, 110, 107, 110, 111, 119, 110]⟩] 9))
          obtain ⟨B3, hB3⟩ : ∃ e, wk.heap.size = e := ⟨_, rfl⟩
          have nB3F : F < B3 := by rw [← hB3]; exact LF
          have nB3B1 : B1 < B3 := by rw [← hB3]; exact LB1
          have nB3B2 : B2 < B3 := by rw [← hB3]; exact LB2
          have LF := OF.out.lt
          have LB1 := OB1.out.lt
          have LB2 := OB2.out.lt
          have LB3 := OB3.out.lt
          rw [hB3] at OB3 LB3 ⊢
          clear hB3
          generalize World.alloc wk _ = wk2 at OF BL OB3 OB1 OB2 LB1 LB2 LF LB3 ⊢
          refine hK _ _ (⟨(OF.out.cell 0).trans rfl, (OB1.out.cell 0).trans rfl, (OB2.out.cell 0).trans rfl⟩) (fun hH => ?_)
          clear hK K'
          try simp only [Act.put, zq1, zq2, zq3, zq4, zq5, zq6]
          obtain ⟨wk, rfl⟩ : ∃ z, z = wk2 := ⟨_, rfl⟩
          refine wpAnyH_ready (rs := [11]) (by kernel_rfl) (by simp) ?_
          refine AllReadyH.cons (o := _) rfl (fun K' hK => ?_) AllReadyH.nil
          go_simp
          have OA := Hi (obj1_new wk #[.slice none 0 0] 22)
          have OF := Hi (OF.out.alloc (.cells #[.slice none 0 0] 22))
          have OB1 := Hi (OB1.out.alloc (.cells #[.slice none 0 0] 22))
          have OB2 := Hi (OB2.out.alloc (.cells #[.slice none 0 0] 22))
          have OB3 := Hi (OB3.out.alloc (.cells #[.slice none 0 0] 22))
          have BL := Hi (BL.out.alloc BL.out.size (.cells #[.slice none 0 0] 22))
          obtain ⟨A, hA⟩ : ∃ e, wk.heap.size = e := ⟨_, rfl⟩
          have nAF : F < A := by rw [← hA]; exact LF
          have nAB1 : B1 < A := by rw [← hA]; exact LB1
          have nAB2 : B2 < A := by rw [← hA]; exact LB2
          have nAB3 : B3 < A := by rw [← hA]; exact LB3
          have LF := OF.out.lt
          have LB1 := OB1.out.lt
          have LB2 := OB2.out.lt
          have LB3 := OB3.out.lt
          have LA := OA.out.lt
          rw [hA] at OA LA ⊢
          clear hA
          generalize World.alloc wk _ = wk2 at OF BL OA OB1 OB2 OB3 LB1 LB2 LB3 LF LA ⊢
          refine hK _ _ (⟨(OF.out.cell 0).trans rfl, (OB1.out.cell 0).trans rfl, (OB2.out.cell 0).trans rfl⟩) (fun hH => ?_)
          clear hK K'
          try simp only [Act.put, zq1, zq2, zq3, zq4, zq5, zq6]
          obtain ⟨wk, rfl⟩ : ∃ z, z = wk2 := ⟨_, rfl⟩
          refine wpAnyH_ready (rs := [12]) (by kernel_rfl) (by simp) ?_
          refine AllReadyH.cons (o := _) rfl (fun K' hK => ?_) AllReadyH.nil
          have cA : wk.cell? ⟨A, 0, none⟩ = some (.slice none 0 0) := (OA.out.cell 0).trans rfl
          have fA : wk.frozen? ⟨A, 0, none⟩ = false := OA.out.frozen 0
          go_simp
          have OF := Hi (OF.out.set_other ⟨A, 0, none⟩ (.slice (some ⟨B3, 0, none⟩) 2 2) (by simp; omega))
          have OB1 := Hi (OB1.out.set_other ⟨A, 0, none⟩ (.slice (some ⟨B3, 0, none⟩) 2 2) (by simp; omega))
          have OB2 := Hi (OB2.out.set_other ⟨A, 0, none⟩ (.slice (some ⟨B3, 0, none⟩) 2 2) (by simp; omega))
          have OB3 := Hi (OB3.out.set_other ⟨A, 0, none⟩ (.slice (some ⟨B3, 0, none⟩) 2 2) (by simp; omega))
          have OA := Hi ((OA.out.set 0 (.slice (some ⟨B3, 0, none⟩) 2 2)).cells (show _ = #[.slice (some ⟨B3, 0, none⟩) 2 2] from rfl))
          have BL := Hi (BL.out.setCell (p := ⟨A, 0, none⟩) (by simp; omega) (.slice (some ⟨B3, 0, none⟩) 2 2))
          clear cA fA
          generalize World.setCell _ _ _ = wk2 at OF OA OB1 OB2 OB3 BL ⊢
          refine hK _ _ (⟨(OF.out.cell 0).trans rfl, (OB1.out.cell 0).trans rfl, (OB2.out.cell 0).trans rfl⟩) (fun hH => ?_)
          clear hK K'
          try simp only [Act.put, zq1, zq2, zq3, zq4, zq5, zq6]
          refine wpAnyH_done (by kernel_rfl) ?_ _
          refine NoPanic.normal ?_
          go_wp2_with fail
          go_meet
          exact ⟨A, B3, rfl, OF.out, OA.out, OB3.out, by omega, by omega, BL.out⟩
        ·
          go_simp
          have OA := Hi (obj1_new wk #[.slice none 0 0] 22)
          have OF := Hi (OF.out.alloc (.cells #[.slice none 0 0] 22))
          have OB1 := Hi (OB1.out.alloc (.cells #[.slice none 0 0] 22))
          have OB2 := Hi (OB2.out.alloc (.cells #[.slice none 0 0] 22))
          have BL := Hi (BL.out.alloc BL.out.size (.cells #[.slice none 0 0] 22))
          obtain ⟨A, hA⟩ : ∃ e, wk.heap.size = e := ⟨_, rfl⟩
          have nAF : F < A := by rw [← hA]; exact LF
          have nAB1 : B1 < A := by rw [← hA]; exact LB1
          have nAB2 : B2 < A := by rw [← hA]; exact LB2
          have LF := OF.out.lt
          have LB1 := OB1.out.lt
          have LB2 := OB2.out.lt
          have LA := OA.out.lt
          rw [hA] at OA LA ⊢
          clear hA
          generalize World.alloc wk _ = wk2 at OF BL OA OB1 OB2 LB1 LB2 LF LA ⊢
          refine hK _ _ (⟨(OF.out.cell 0).trans rfl, (OB1.out.cell 0).trans rfl, (OB2.out.cell 0).trans rfl⟩) (fun hH => ?_)
          clear hK K'
          try simp only [Act.put, zq1, zq2, zq3, zq4, zq5, zq6]
          obtain ⟨wk, rfl⟩ : ∃ z, z = wk2 := ⟨_, rfl⟩
          refine wpAnyH_ready (rs := [10]) (by kernel_rfl) (by simp) ?_
          refine AllReadyH.cons (o := _) rfl (fun K' hK => ?_) AllReadyH.nil
          go_simp
          have OB3 := Hi (obj1_new wk #[.string ⟨#[98, 121, 116, 101, 115, 32, 48]⟩, .string ⟨#[102, 111, 114, 109, 97, 116, 32, 117, 110, 107, 110, 111, 119, 110]⟩] 9)
          have OF := Hi (OF.out.alloc (.cells #[.string ⟨#[98, 121, 116, 101, 115, 32, 48]⟩, .string ⟨#[102, 111, 114, 109, 97, 116, 32, 117, 110, 107, 110, 111, 119, 110]⟩] 9))
          have OB1 := Hi (OB1.out.alloc (.cells #[.string ⟨#[98, 121, 116, 101, 115, 32, 48]⟩, .string ⟨#[102, 111, 114, 109, 97, 116, 32, 117, 110, 107, 110, 111, 119, 110]⟩] 9))
          have OB2 := Hi (OB2.out.alloc (.cells #[.string ⟨#[98, 121, 116, 101, 115, 32, 48]⟩, .string ⟨#[102, 111, 114, 109, 97, 116, 32, 117, 110, 107, 110, 111, 119, 110]⟩] 9))
          have OA := Hi (OA.out.alloc (.cells #[.string ⟨#[98, 121, 116, 101, 115, 32, 48]⟩, .string ⟨#[102, 111, 114, 109, 97, 116, 32, 117, 110, 107, 110, 111, 119, 110]⟩] 9))
          have BL := Hi (BL.out.alloc BL.out.size (.cells #[.string ⟨#[98, 121, 116, 101, 115, 32, 48]⟩, .string ⟨#[102, 111, 114, 109, 97, 116, 32, 117, 110, 107, 110, 111, 119, 110]⟩] 9))
          obtain ⟨B3, hB3⟩ : ∃ e, wk.heap.size = e := ⟨_, rfl⟩
          have nB3F : F < B3 := by rw [← hB3]; exact LF
          have nB3B1 : B1 < B3 := by rw [← hB3]; exact LB1
          have nB3B2 : B2 < B3 := by rw [← hB3]; exact LB2
          have nB3A : A < B3 := by rw [← hB3]; exact LA
          have LF := OF.out.lt
          have LB1 := OB1.out.lt
          have LB2 := OB2.out.lt
          have LA := OA.out.lt
          have LB3 := OB3.out.lt
          rw [hB3] at OB3 LB3 ⊢
          clear hB3
          generalize World.alloc wk _ = wk2 at OF BL OB3 OB1 OB2 OA LB1 LB2 LA LF LB3 ⊢
          refine hK _ _ (⟨(OF.out.cell 0).trans rfl, (OB1.out.cell 0).trans rfl, (OB2.out.cell 0).trans rfl⟩) (fun hH => ?_)
          clear hK K'
          try simp only [Act.put, zq1, zq2, zq3, zq4, zq5, zq6]
          obtain ⟨wk, rfl⟩ : ∃ z, z = wk2 := ⟨_, rfl⟩
          refine wpAnyH_ready (rs := [12]) (by kernel_rfl) (by simp) ?_
          refine AllReadyH.cons (o := _) rfl (fun K' hK => ?_) AllReadyH.nil
          have cA : wk.cell? ⟨A, 0, none⟩ = some (.slice none 0 0) := (OA.out.cell 0).trans rfl
          have fA : wk.frozen? ⟨A, 0, none⟩ = false := OA.out.frozen 0
          go_simp
          have OF := Hi (OF.out.set_other ⟨A, 0, none⟩ (.slice (some ⟨B3, 0, none⟩) 2 2) (by simp; omega))
          have OB1 := Hi (OB1.out.set_other ⟨A, 0, none⟩ (.slice (some ⟨B3, 0, none⟩) 2 2) (by simp; omega))
          have OB2 := Hi (OB2.out.set_other ⟨A, 0, none⟩ (.slice (some ⟨B3, 0, none⟩) 2 2) (by simp; omega))
          have OB3 := Hi (OB3.out.set_other ⟨A, 0, none⟩ (.slice (some ⟨B3, 0, none⟩) 2 2) (by simp; omega))
          have OA := Hi ((OA.out.set 0 (.slice (some ⟨B3, 0, none⟩) 2 2)).cells (show _ = #[.slice (some ⟨B3, 0, none⟩) 2 2] from rfl))
          have BL := Hi (BL.out.setCell (p := ⟨A, 0, none⟩) (by simp; omega) (.slice (some ⟨B3, 0, none⟩) 2 2))
          clear cA fA
          generalize World.setCell _ _ _ = wk2 at OF OA OB1 OB2 OB3 BL ⊢
          refine hK _ _ (⟨(OF.out.cell 0).trans rfl, (OB1.out.cell 0).trans rfl, (OB2.out.cell 0).trans rfl⟩) (fun hH => ?_)
          clear hK K'
          try simp only [Act.put, zq1, zq2, zq3, zq4, zq5, zq6]
          refine wpAnyH_done (by kernel_rfl) ?_ _
          refine NoPanic.normal ?_
          go_wp2_with fail
          go_meet
          exact ⟨A, B3, rfl, OF.out, OA.out, OB3.out, by omega, by omega, BL.out⟩
      ·
        go_simp
        have OA := Hi (obj1_new wk #[.slice none 0 0] 22)
        have OF := Hi (OF.out.alloc (.cells #[.slice none 0 0] 22))
        have OB1 := Hi (OB1.out.alloc (.cells #[.slice none 0 0] 22))
        have BL := Hi (BL.out.alloc BL.out.size (.cells #[.slice none 0 0] 22))
        obtain ⟨A, hA⟩ : ∃ e, wk.heap.size = e := ⟨_, rfl⟩
        have nAF : F < A := by rw [← hA]; exact LF
        have nAB1 : B1 < A := by rw [← hA]; exact LB1
        have LF := OF.out.lt
        have LB1 := OB1.out.lt
        have LA := OA.out.lt
        rw [hA] at OA LA ⊢
        clear hA
        generalize World.alloc wk _ = wk2 at OF BL OA OB1 LB1 LF LA ⊢
        refine hK _ _ (⟨(OF.out.cell 0).trans rfl, (OB1.out.cell 0).trans rfl⟩) (fun hH => ?_)
        clear hK K'
        try simp only [Act.put, zq1, zq2, zq3, zq4, zq5, zq6]
        obtain ⟨wk, rfl⟩ : ∃ z, z = wk2 := ⟨_, rfl⟩
        refine wpAnyH_ready (rs := [8]) (by kernel_rfl) (by simp) ?_
        refine AllReadyH.cons (o := _) rfl (fun K' hK => ?_) AllReadyH.nil
        go_simp
        have OB2 := Hi (obj1_new wk #[.iface 9 (.string ⟨#[117, 110, 107, 110, 111, 119, 110]⟩)] 20)
        have OF := Hi (OF.out.alloc (.cells #[.iface 9 (.string ⟨#[117, 110, 107, 110, 111, 119, 110]⟩)] 20))
        have OB1 := Hi (OB1.out.alloc (.cells #[.iface 9 (.string ⟨#[117, 110, 107, 110, 111, 119, 110]⟩)] 20))
        have OA := Hi (OA.out.alloc (.cells #[.iface 9 (.string ⟨#[117, 110, 107, 110, 111, 119, 110]⟩)] 20))
        have BL := Hi (BL.out.alloc BL.out.size (.cells #[.iface 9 (.string ⟨#[117, 110, 107, 110, 111, 119, 110]⟩)] 20))
        obtain ⟨B2, hB2⟩ : ∃ e, wk.heap.size = e := ⟨_, rfl⟩
        have nB2F : F < B2 := by rw [← hB2]; exact LF
        have nB2B1 : B1 < B2 := by rw [← hB2]; exact LB1
        have nB2A : A < B2 := by rw [← hB2]; exact LA
        have LF := OF.out.lt
        have LB1 := OB1.out.lt
        have LA := OA.out.lt
        have LB2 := OB2.out.lt
        rw [hB2] at OB2 LB2 ⊢
        clear hB2
        generalize World.alloc wk _ = wk2 at OF BL OB2 OB1 OA LB1 LA LF LB2 ⊢
        refine hK _ _ (⟨(OF.out.cell 0).trans rfl, (OB1.out.cell 0).trans rfl⟩) (fun hH => ?_)
        clear hK K'
        try simp only [Act.put, zq1, zq2, zq3, zq4, zq5, zq6]
        obtain ⟨wk, rfl⟩ : ∃ z, z = wk2 := ⟨_, rfl⟩
        refine wpAnyH_more (S2 := fun w' : World => w'.cell? ⟨F, 0, none⟩ = some (.int .i64 0) ∧ w'.cell? ⟨B1, 0, none⟩ = some (.iface 3 (.int .i64 0)) ∧ w'.cell? ⟨B2, 0, none⟩ = some (.iface 9 (.string ⟨#[117, 110, 107, 110, 111, 119, 110]⟩))) (fun _ h => ⟨h.1, h.2.1⟩) _ _ _ _ ?_
        replace hH := (show (fun w' : World => w'.cell? ⟨F, 0, none⟩ = some (.int .i64 0) ∧ w'.cell? ⟨B1, 0, none⟩ = some (.iface 3 (.int .i64 0)) ∧ w'.cell? ⟨B2, 0, none⟩ = some (.iface 9 (.string ⟨#[117, 110, 107, 110, 111, 119, 110]⟩))) wk from ⟨(OF.out.cell 0).trans rfl, (OB1.out.cell 0).trans rfl, (OB2.out.cell 0).trans rfl⟩)
        refine wpAnyH_call2 (i := 9) (v := .string ⟨#[102, 111, 114, 109, 97, 116, 32, 117, 110, 107, 110, 111, 119, 110]⟩) rfl (by kernel_rfl) (by kernel_rfl) (by kernel_rfl) (fun _ _ _ h => h) (Or.inr ⟨by rfl, fun wx hx => ⟨10, #[.string ⟨#[102, 111, 114, 109, 97, 116]⟩, .slice (some ⟨B2, 0, none⟩) 1 1], by kernel_rfl, HL2.out B2 wx hx.2.2⟩⟩) hH ?_
        try simp only [Act.put, zq1, zq2, zq3, zq4, zq5, zq6]
        refine wpAnyH_ready (rs := [10]) (by kernel_rfl) (by simp) ?_
        refine AllReadyH.cons (o := _) rfl (fun K' hK => ?_) AllReadyH.nil
        go_simp
        have OB3 := Hi (obj1_new wk #[.string ⟨#[98, 121, 116, 101, 115, 32, 48]⟩, .string ⟨#[102, 111, 114, 109, 97, 116, 32, 117, 110, 107, 110, 111, 119, 110]⟩] 9)
        have OF := Hi (OF.out.alloc (.cells #[.string ⟨#[98, 121, 116, 101, 115, 32, 48]⟩, .string ⟨#[102, 111, 114, 109, 97, 116, 32, 117, 110, 107, 110, 111, 119, 110]⟩] 9))
        have OB1 := Hi (OB1.out.alloc (.cells #[.string ⟨#[98, 121, 116, 101, 115, 32, 48]⟩, .string ⟨#[102, 111, 114, 109, 97, 116, 32, 117, 110, 107, 110, 111, 119, 110]⟩] 9))
        have OA := Hi (OA.out.alloc (.cells #[.string ⟨#[98, 121, 116, 101, 115, 32, 48]⟩, .string ⟨#[102, 111, 114, 109, 97, 116, 32, 117, 110, 107, 110, 111, 119, 110]⟩] 9))
        have OB2 := Hi (OB2.out.alloc (.cells #[.string ⟨#[98, 121, 116, 101, 115, 32, 48]⟩, .string ⟨#[102, 111, 114, 109, 97, 116, 32, 117, 110, 107, 110, 111, 119, 110]⟩] 9))
        have BL := Hi (BL.out.alloc BL.out.size (.cells #[.string ⟨#[98, 121, 116, 101, 115, 32, 48]⟩, .string ⟨#[102, 111, 114, 109, 97, 116, 32, 117, 110, 107, 110, 111, 119, 110]⟩] 9))
        obtain ⟨B3, hB3⟩ : ∃ e, wk.heap.size = e := ⟨_, rfl⟩
        have nB3F : F < B3 := by rw [← hB3]; exact LF
        have nB3B1 : B1 < B3 := by rw [← hB3]; exact LB1
        have nB3A : A < B3 := by rw [← hB3]; exact LA
        have nB3B2 : B2 < B3 := by rw [← hB3]; exact LB2
        have LF := OF.out.lt
        have LB1 := OB1.out.lt
        have LA := OA.out.lt
        have LB2 := OB2.out.lt
        have LB3 := OB3.out.lt
        rw [hB3] at OB3 LB3 ⊢
        clear hB3
        generalize World.alloc wk _ = wk2 at OF BL OB3 OB1 OA OB2 LB1 LA LB2 LF LB3 ⊢
        refine hK _ _ (⟨(OF.out.cell 0).trans rfl, (OB1.out.cell 0).trans rfl, (OB2.out.cell 0).trans rfl⟩) (fun hH => ?_)
        clear hK K'
        try simp only [Act.put, zq1, zq2, zq3, zq4, zq5, zq6]
        obtain ⟨wk, rfl⟩ : ∃ z, z = wk2 := ⟨_, rfl⟩
        refine wpAnyH_ready (rs := [12]) (by kernel_rfl) (by simp) ?_
        refine AllReadyH.cons (o := _) rfl (fun K' hK => ?_) AllReadyH.nil
        have cA : wk.cell? ⟨A, 0, none⟩ = some (.slice none 0 0) := (OA.out.cell 0).trans rfl
        have fA : wk.frozen? ⟨A, 0, none⟩ = false := OA.out.frozen 0
        go_simp
        have OF := Hi (OF.out.set_other ⟨A, 0, none⟩ (.slice (some ⟨B3, 0, none⟩) 2 2) (by simp; omega))
        have OB1 := Hi (OB1.out.set_other ⟨A, 0, none⟩ (.slice (some ⟨B3, 0, none⟩) 2 2) (by simp; omega))
        have OB2 := Hi (OB2.out.set_other ⟨A, 0, none⟩ (.slice (some ⟨B3, 0, none⟩) 2 2) (by simp; omega))
        have OB3 := Hi (OB3.out.set_other ⟨A, 0, none⟩ (.slice (some ⟨B3, 0, none⟩) 2 2) (by simp; omega))
        have OA := Hi ((OA.out.set 0 (.slice (some ⟨B3, 0, none⟩) 2 2)).cells (show _ = #[.slice (some ⟨B3, 0, none⟩) 2 2] from rfl))
        have BL := Hi (BL.out.setCell (p := ⟨A, 0, none⟩) (by simp; omega) (.slice (some ⟨B3, 0, none⟩) 2 2))
        clear cA fA
        generalize World.setCell _ _ _ = wk2 at OF OA OB1 OB2 OB3 BL ⊢
        refine hK _ _ (⟨(OF.out.cell 0).trans rfl, (OB1.out.cell 0).trans rfl, (OB2.out.cell 0).trans rfl⟩) (fun hH => ?_)
        clear hK K'
        try simp only [Act.put, zq1, zq2, zq3, zq4, zq5, zq6]
        refine wpAnyH_done (by kernel_rfl) ?_ _
        refine NoPanic.normal ?_
        go_wp2_with fail
        go_meet
        exact ⟨A, B3, rfl, OF.out, OA.out, OB3.out, by omega, by omega, BL.out⟩
    ·
      go_simp
      have OA := Hi (obj1_new wk #[.slice none 0 0] 22)
      have OF := Hi (OF.out.alloc (.cells #[.slice none 0 0] 22))
      have BL := Hi (BL.out.alloc BL.out.size (.cells #[.slice none 0 0] 22))
      obtain ⟨A, hA⟩ : ∃ e, wk.heap.size = e := ⟨_, rfl⟩
      have nAF : F < A := by rw [← hA]; exact LF
      have LF := OF.out.lt
      have LA := OA.out.lt
      rw [hA] at OA LA ⊢
      clear hA
      generalize World.alloc wk _ = wk2 at OF BL OA LF LA ⊢
      refine hK _ _ ((OF.out.cell 0).trans rfl) (fun hH => ?_)
      clear hK K'
      try simp only [Act.put, zq1, zq2, zq3, zq4, zq5, zq6]
      obtain ⟨wk, rfl⟩ : ∃ z, z = wk2 := ⟨_, rfl⟩
      refine wpAnyH_ready (rs := [3]) (by kernel_rfl) (by simp) ?_
      refine AllReadyH.cons (o := _) rfl (fun K' hK => ?_) AllReadyH.nil
      go_simp
      have OB1 := Hi (obj1_new wk #[.iface 3 (.int .i64 0)] 20)
      have OF := Hi (OF.out.alloc (.cells #[.iface 3 (.int .i64 0)] 20))
      have OA := Hi (OA.out.alloc (.cells #[.iface 3 (.int .i64 0)] 20))
      have BL := Hi (BL.out.alloc BL.out.size (.cells #[.iface 3 (.int .i64 0)] 20))
      obtain ⟨B1, hB1⟩ : ∃ e, wk.heap.size = e := ⟨_, rfl⟩
      have nB1F : F < B1 := by rw [← hB1]; exact LF
      have nB1A : A < B1 := by rw [← hB1]; exact LA
      have LF := OF.out.lt
      have LA := OA.out.lt
      have LB1 := OB1.out.lt
      rw [hB1] at OB1 LB1 ⊢
      clear hB1
      generalize World.alloc wk _ = wk2 at OF BL OB1 OA LA LF LB1 ⊢
      refine hK _ _ ((OF.out.cell 0).trans rfl) (fun hH => ?_)
      clear hK K'
      try simp only [Act.put, zq1, zq2, zq3, zq4, zq5, zq6]
      obtain ⟨wk, rfl⟩ : ∃ z, z = wk2 := ⟨_, rfl⟩
      refine wpAnyH_more (S2 := fun w' : World => w'.cell? ⟨F, 0, none⟩ = some (.int .i64 0) ∧ w'.cell? ⟨B1, 0, none⟩ = some (.iface 3 (.int .i64 0))) (fun _ h => h.1) _ _ _ _ ?_
      replace hH := (show (fun w' : World => w'.cell? ⟨F, 0, none⟩ = some (.int .i64 0) ∧ w'.cell? ⟨B1, 0, none⟩ = some (.iface 3 (.int .i64 0))) wk from ⟨(OF.out.cell 0).trans rfl, (OB1.out.cell 0).trans rfl⟩)
      refine wpAnyH_call2 (i := 4) (v := .string ⟨#[98, 121, 116, 101, 115, 32, 48]⟩) rfl (by kernel_rfl) (by kernel_rfl) (by kernel_rfl) (fun _ _ _ h => h) (Or.inr ⟨by rfl, fun wx hx => ⟨10, #[.string ⟨#[98, 121, 116, 101, 115]⟩, .slice (some ⟨B1, 0, none⟩) 1 1], by kernel_rfl, HL1.out B1 wx hx.2⟩⟩) hH ?_
      try simp only [Act.put, zq1, zq2, zq3, zq4, zq5, zq6]
      refine wpAnyH_call2 (i := 6) (v := .string ⟨#[117, 110, 107, 110, 111, 119, 110]⟩) rfl (by kernel_rfl) (by kernel_rfl) (by kernel_rfl) (fun _ _ _ h => h) (Or.inr ⟨by rfl, fun wx hx => ⟨17, #[.int .i64 0], by kernel_rfl, HF.out wx⟩⟩) hH ?_
      try simp only [Act.put, zq1, zq2, zq3, zq4, zq5, zq6]
      refine wpAnyH_take (i := 7) (v := .iface 9 (.string ⟨#[117, 110, 107, 110, 111, 119, 110]⟩)) rfl (by kernel_rfl) (by kernel_rfl) (by kernel_rfl) (fun _ _ _ h => h) (Or.inl ⟨by rfl, fun w hS => by go_simp⟩) hH ?_
      try simp only [Act.put, zq1, zq2, zq3, zq4, zq5, zq6]
      refine wpAnyH_ready (rs := [8]) (by kernel_rfl) (by simp) ?_
      refine AllReadyH.cons (o := _) rfl (fun K' hK => ?_) AllReadyH.nil
      go_simp
      have OB2 := Hi (obj1_new wk #[.iface 9 (.string ⟨#[117, 110, 107, 110, 111, 119, 110]⟩)] 20)
      have OF := Hi (OF.out.alloc (.cells #[.iface 9 (.string ⟨#[117, 110, 107, 110, 111, 119, 110]⟩)] 20))
      have OA := Hi (OA.out.alloc (.cells #[.iface 9 (.string ⟨#[117, 110, 107, 110, 111, 119, 110]⟩)] 20))
      have OB1 := Hi (OB1.out.alloc (.cells #[.iface 9 (.string ⟨#[117, 110, 107, 110, 111, 119, 110]⟩)] 20))
      have BL := Hi (BL.out.alloc BL.out.size (.cells #[.iface 9 (.string ⟨#[117, 110, 107, 110, 111, 119, 110]⟩)] 20))
      obtain ⟨B2, hB2⟩ : ∃ e, wk.heap.size = e := ⟨_, rfl⟩
      have nB2F : F < B2 := by rw [← hB2]; exact LF
      have nB2A : A < B2 := by rw [← hB2]; exact LA
      have nB2B1 : B1 < B2 := by rw [← hB2]; exact LB1
      have LF := OF.out.lt
      have LA := OA.out.lt
      have LB1 := OB1.out.lt
      have LB2 := OB2.out.lt
      rw [hB2] at OB2 LB2 ⊢
      clear hB2
      generalize World.alloc wk _ = wk2 at OF BL OB2 OA OB1 LA LB1 LF LB2 ⊢
      refine hK _ _ (⟨(OF.out.cell 0).trans rfl, (OB1.out.cell 0).trans rfl⟩) (fun hH => ?_)
      clear hK K'
      try simp only [Act.put, zq1, zq2, zq3, zq4, zq5, zq6]
      obtain ⟨wk, rfl⟩ : ∃ z, z = wk2 := ⟨_, rfl⟩
      refine wpAnyH_more (S2 := fun w' : World => w'.cell? ⟨F, 0, none⟩ = some (.int .i64 0) ∧ w'.cell? ⟨B1, 0, none⟩ = some (.iface 3 (.int .i64 0)) ∧ w'.cell? ⟨B2, 0, none⟩ = some (.iface 9 (.string ⟨#[117, 110, 107, 110, 111, 119, 110]⟩))) (fun _ h => ⟨h.1, h.2.1⟩) _ _ _ _ ?_
      replace hH := (show (fun w' : World => w'.cell? ⟨F, 0, none⟩ = some (.int .i64 0) ∧ w'.cell? ⟨B1, 0, none⟩ = some (.iface 3 (.int .i64 0)) ∧ w'.cell? ⟨B2, 0, none⟩ = some (.iface 9 (.string ⟨#[117, 110, 107, 110, 111, 119, 110]⟩))) wk from ⟨(OF.out.cell 0).trans rfl, (OB1.out.cell 0).trans rfl, (OB2.out.cell 0).trans rfl⟩)
      refine wpAnyH_call2 (i := 9) (v := .string ⟨#[102, 111, 114, 109, 97, 116, 32, 117, 110, 107, 110, 111, 119, 110]⟩) rfl (by kernel_rfl) (by kernel_rfl) (by kernel_rfl) (fun _ _ _ h => h) (Or.inr ⟨by rfl, fun wx hx => ⟨10, #[.string ⟨#[102, 111, 114, 109, 97, 116]⟩, .slice (some ⟨B2, 0, none⟩) 1 1], by kernel_rfl, HL2.out B2 wx hx.2.2⟩⟩) hH ?_
      try simp only [Act.put, zq1, zq2, zq3, zq4, zq5, zq6]
      refine wpAnyH_ready (rs := [10]) (by kernel_rfl) (by simp) ?_
      refine AllReadyH.cons (o := _) rfl (fun K' hK => ?_) AllReadyH.nil
      go_simp
      have OB3 := Hi (obj1_new wk #[.string ⟨#[98, 121, 116, 101, 115, 32, 48]⟩, .string ⟨#[102, 111, 114, 109, 97, 116, 32, 117, 110, 107, 110, 111, 119, 110]⟩] 9)
      have OF := Hi (OF.out.alloc (.cells #[.string ⟨#[98, 121, 116, 101, 115, 32, 48]⟩, .string ⟨#[102, 111, 114, 109, 97, 116, 32, 117, 110, 107, 110, 111, 119, 110]⟩] 9))
      have OA := Hi (OA.out.alloc (.cells #[.string ⟨#[98, 121, 116, 101, 115, 32, 48]⟩, .string ⟨#[102, 111, 114, 109, 97, 116, 32, 117, 110, 107, 110, 111, 119, 110]⟩] 9))
      have OB1 := Hi (OB1.out.alloc (.cells #[.string ⟨#[98, 121, 116, 101, 115, 32, 48]⟩, .string ⟨#[102, 111, 114, 109, 97, 116, 32, 117, 110, 107, 110, 111, 119, 110]⟩] 9))
      have OB2 := Hi (OB2.out.alloc (.cells #[.string ⟨#[98, 121, 116, 101, 115, 32, 48]⟩, .string ⟨#[102, 111, 114, 109, 97, 116, 32, 117, 110, 107, 110, 111, 119, 110]⟩] 9))
      have BL := Hi (BL.out.alloc BL.out.size (.cells #[.string ⟨#[98, 121, 116, 101, 115, 32, 48]⟩, .string ⟨#[102, 111, 114, 109, 97, 116, 32, 117, 110, 107, 110, 111, 119, 110]⟩] 9))
      obtain ⟨B3, hB3⟩ : ∃ e, wk.heap.size = e := ⟨_, rfl⟩
      have nB3F : F < B3 := by rw [← hB3]; exact LF
      have nB3A : A < B3 := by rw [← hB3]; exact LA
      have nB3B1 : B1 < B3 := by rw [← hB3]; exact LB1
      have nB3B2 : B2 < B3 := by rw [← hB3]; exact LB2
      have LF := OF.out.lt
      have LA := OA.out.lt
      have LB1 := OB1.out.lt
      have LB2 := OB2.out.lt
      have LB3 := OB3.out.lt
      rw [hB3] at OB3 LB3 ⊢
      clear hB3
      generalize World.alloc wk _ = wk2 at OF BL OB3 OA OB1 OB2 LA LB1 LB2 LF LB3 ⊢
      refine hK _ _ (⟨(OF.out.cell 0).trans rfl, (OB1.out.cell 0).trans rfl, (OB2.out.cell 0).trans rfl⟩) (fun hH => ?_)
      clear hK K'
      try simp only [Act.put, zq1, zq2, zq3, zq4, zq5, zq6]
      obtain ⟨wk, rfl⟩ : ∃ z, z = wk2 := ⟨_, rfl⟩
      refine wpAnyH_ready (rs := [12]) (by kernel_rfl) (by simp) ?_
      refine AllReadyH.cons (o := _) rfl (fun K' hK => ?_) AllReadyH.nil
      have cA : wk.cell? ⟨A, 0, none⟩ = some (.slice none 0 0) := (OA.out.cell 0).trans rfl
      have fA : wk.frozen? ⟨A, 0, none⟩ = false := OA.out.frozen 0
      go_simp
      have OF := Hi (OF.out.set_other ⟨A, 0, none⟩ (.slice (some ⟨B3, 0, none⟩) 2 2) (by simp; omega))
      have OB1 := Hi (OB1.out.set_other ⟨A, 0, none⟩ (.slice (some ⟨B3, 0, none⟩) 2 2) (by simp; omega))
      have OB2 := Hi (OB2.out.set_other ⟨A, 0, none⟩ (.slice (some ⟨B3, 0, none⟩) 2 2) (by simp; omega))
      have OB3 := Hi (OB3.out.set_other ⟨A, 0, none⟩ (.slice (some ⟨B3, 0, none⟩) 2 2) (by simp; omega))
      have OA := Hi ((OA.out.set 0 (.slice (some ⟨B3, 0, none⟩) 2 2)).cells (show _ = #[.slice (some ⟨B3, 0, none⟩) 2 2] from rfl))
      have BL := Hi (BL.out.setCell (p := ⟨A, 0, none⟩) (by simp; omega) (.slice (some ⟨B3, 0, none⟩) 2 2))
      clear cA fA
      generalize World.setCell _ _ _ = wk2 at OF OA OB1 OB2 OB3 BL ⊢
      refine hK _ _ (⟨(OF.out.cell 0).trans rfl, (OB1.out.cell 0).trans rfl, (OB2.out.cell 0).trans rfl⟩) (fun hH => ?_)
      clear hK K'
      try simp only [Act.put, zq1, zq2, zq3, zq4, zq5, zq6]
      refine wpAnyH_done (by kernel_rfl) ?_ _
      refine NoPanic.normal ?_
      go_wp2_with fail
      go_meet
      exact ⟨A, B3, rfl, OF.out, OA.out, OB3.out, by omega, by omega, BL.out⟩
  case rest =>
    obtain ⟨A, B3, rfl, hf, ha, h3, nA, n3, hb⟩ := hcut
    have OF := Hi hf
    have OA := Hi ha
    have O3 := Hi h3
    have BL := Hi hb
    clear hf ha h3 hb
    have l3 := O3.out.lt
    have lA := OA.out.lt
    have zc := BL.out.size
    obtain ⟨Z, hZ⟩ : ∃ Z, wc.heap.size = Z := ⟨_, rfl⟩
    have OZ := Hi (obj1_new wc #[.string ⟨#[]⟩] 9)
    have O3 := Hi (O3.out.alloc (.cells #[.string ⟨#[]⟩] 9))
    have OA := Hi (OA.out.alloc (.cells #[.string ⟨#[]⟩] 9))
    have BL := Hi (BL.out.alloc BL.out.size (.cells #[.string ⟨#[]⟩] 9))
    rw [hZ] at OZ l3 lA zc
    have HZ := Hi hZ
    clear hZ
    go_wp2_with (go_at_call 18; (with_reducible refine (HA.out _).mono ?_); rintro e w5 ⟨rfl, rfl⟩)
    rw [HZ.out]
    clear HZ
    generalize World.alloc _ _ = W1 at OZ O3 OA BL ⊢
    have lZ := OZ.out.lt
    refine (wpIn_wide (n := 5)).1 ?_
    refine wpIn_rangeFunc_ownF (F := Fence.wide) (n := 5) rfl (by omega) (gf := 32) (lb := #[.pointer (some ⟨Z, 0, none⟩)]) (by first | rfl | simp) trivial (enters_of Tryz.func32 (by kernel_rfl) rfl)
      (all0_stops _ Z _ lZ ((OZ.out.cell 0).trans rfl)) keepB_t (keepB_b lZ) (Below.refl _ _) (fun _ => rfl)
      (fun _ X => (Obj1 X A #[.slice (some ⟨B3, 0, none⟩) 2 2] 22 ∧ Obj1 X B3 #[.string ⟨#[98, 121, 116, 101, 115, 32, 48]⟩, .string ⟨#[102, 111, 114, 109, 97, 116, 32, 117, 110, 107, 110, 111, 119, 110]⟩] 9) ∧ Below w.heap.size w X) (fun _ _ _ => False) ?hI ?hIx ⟨⟨OA.out, O3.out⟩, BL.out⟩ ?a1 ?assign ?body ?done ?stop
    case hI => exact OwnFrom.and (OwnFrom.and (ownFrom_atR (fun _ => .cells #[.slice (some ⟨B3, 0, none⟩) 2 2] 22 (0, 0)) (by omega)) (ownFrom_atR (fun _ => .cells #[.string ⟨#[98, 121, 116, 101, 115, 32, 48]⟩, .string ⟨#[102, 111, 114, 109, 97, 116, 32, 117, 110, 107, 110, 111, 119, 110]⟩] 9 (0, 0)) (by omega))) (ownFrom_below (Nat.le_refl _) (by omega))
    case hIx => exact fun c s X Y row hs hg hr => hs
    case assign =>
      intro l x X K hK
      gi_wp2
      exact hK
    case stop =>
      rintro D c pre X hD hp h hK
      exact h.elim
    case body =>
      rintro l pre x X h hlen
      exact absurd hlen (by omega)
    case done =>
      rintro D ys X hD hys ⟨⟨ha, h3⟩, hL⟩ hK
      have cA : X.cell? ⟨A, 0, none⟩ = some (.slice (some ⟨B3, 0, none⟩) 2 2) := (ha.cell 0).trans rfl
      have H3 := Hi h3
      have HL := Hi hL
      have HK := Hi hK
      have nB : w.heap.size ≤ B3 := by omega
      have nD : B3 < D := by omega
      have zD : w.heap.size ≤ D := by omega
      clear ha h3 hL hK
      go_wp2
      refine ⟨by simp, .inl ⟨_, _, rfl, run_takeDeferred HK.out, ?_⟩⟩
      exact ⟨_, by rw [results_tmp rfl]; rfl, B3, rfl, (World.putObj_heap_other (by omega)).trans H3.out, nB, HL.out.trans (belowK_b (w := w) (Nat.le_refl _) X D _ _ zD HK.out rfl rfl)⟩
end Go.Proofs.YtapdgfeekipidaaGreatDoor
