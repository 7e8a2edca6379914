/- A painter with all that it works with, and put when nothing is refused. -/
import Derived.Test.YtlfbaggcfaenlaaGreatK23
import Derived.Test.YtlfbaggcfaenlaaGreatK0
namespace Go.Proofs.YtlfbaggcfaenlaaGreat
open Go.RowKit
set_option linter.unusedVariables false
set_option linter.unusedSimpArgs false
structure JobAt (w : World) (N : Nat) (n : Pn) (x : Sr) (l : Led) (p : Pal) (r : Ras) : Prop where
  pn : PnAt w N n
  pr : Pair w n.X x l
  pal : PalAt w n.P p
  ras : RasAt w n.R r
  ap : PnApart N n x p r
  op : r.op = true
  rw_ : r.w = n.W
  rh : r.h = n.H
  br : l.br = false
theorem PnApart.keep {N : Nat} {n n' : Pn} {x : Sr} {p : Pal} {r r' : Ras} (h : PnApart N n x p r) (h1 : n'.X = n.X) (h2 : n'.P = n.P) (h3 : n'.R = n.R) (h4 : r'.L = r.L) (h5 : r'.B = r.B) (h6 : r'.b.g = r.b.g) : PnApart N n' x p r' := by
  obtain ⟨a1, a2, a3, a4, a5, a6, a7, a8, a9, a10, a11, a12, a13, a14, a15, a16, a17, a18, a19, a20, a21⟩ := h
  constructor <;> (first | (rw [h1] ; assumption) | (rw [h1, h6]; assumption) | skip) <;> (try rw [h1]) <;> (try rw [h2]) <;> (try rw [h3]) <;> (try rw [h4]) <;> (try rw [h5]) <;> (try rw [h6]) <;> assumption
theorem JobAt.keep {w w' : World} {N : Nat} {n : Pn} {x : Sr} {l : Led} {p : Pal} {r : Ras} (h : JobAt w N n x l p r) (hc : Chg (fun _ => False) w w') : JobAt w' N n x l p r :=
  ⟨hc.obj h.pn (fun h => h), ⟨h.pr.src.chg hc (fun h => h), h.pr.led.chg hc (fun h => h)⟩, h.pal.chg hc (fun h => h) (fun h => h) (fun h => h), h.ras.chg hc (fun h => h) (fun h => h) (fun h => h), h.ap, h.op, h.rw_, h.rh, h.br⟩
end Go.Proofs.YtlfbaggcfaenlaaGreat
