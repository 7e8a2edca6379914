/- The law DibrleReads. -/
import Derived.Test.YtlfbaggcfaenlaaGreatK51
import Derived.Test.YtlfbaggcfaenlaaGreatK0
namespace Go.Proofs.YtlfbaggcfaenlaaGreat
open Go.RowKit
set_option linter.unusedVariables false
theorem reads22_law (s : ByteArray) (f : Int) (hs : s.size ≤ maxLen) (hf : (Lit.int .i64 f).wf = true) (w : World) : Calls Tryz.prog 4 #[.string s, .int .i64 f] w (Yes22 w) := by
  have hs1 : s.size ≤ 9223372036854775807 := by unfold maxLen at hs; omega
  by_cases h : 1500 < s.size
  · exact reads22_long s f w h hs1
  have h1 : s.size ≤ 1500 := by omega
  rcases head_cases s 0 (Nat.zero_le _) (by omega) f with ⟨k, a, hk, hr⟩ | ⟨H, r, g, b, q, en, HG⟩
  · exact reads22_exit s f w h1 0 0 0 false 0 0 0 0 0 0 0 0 0 k a hr (Or.inl hk)
  · have hr : rRead20 s 0 = [.int .i64 H.sz, .int .i64 H.w, .int .i64 H.h, .bool H.top, .int .i64 H.dp, .int .i64 H.mt, .int .i64 H.co, .int .i64 r, .int .i64 g, .int .i64 b, .int .i64 q, .int .i64 ((0 : Nat) : Int), .int .i64 en, .int .i64 0, .int .i64 0] := HG.ok
    by_cases hm : H.mt = 1 ∨ H.mt = 2
    · by_cases hw : H.w ≤ 40
      · by_cases hh : H.h ≤ 40
        · obtain ⟨sz, W, Hh, co, h8 | h4⟩ := run_head s f H r g b q en HG hm hw hh
          · exact reads22_good s f w h1 sz W Hh co 8 1 r g b q en h8 (Or.inl ⟨rfl, rfl⟩)
          · exact reads22_good s f w h1 sz W Hh co 4 2 r g b q en h4 (Or.inr ⟨rfl, rfl⟩)
        · exact reads22_exit s f w h1 H.sz H.w H.h H.top H.dp H.mt H.co r g b q ((0 : Nat) : Int) en 0 0 hr (Or.inr (Or.inr (Or.inr ⟨rfl, hm, hw, by omega⟩)))
      · exact reads22_exit s f w h1 H.sz H.w H.h H.top H.dp H.mt H.co r g b q ((0 : Nat) : Int) en 0 0 hr (Or.inr (Or.inr (Or.inl ⟨rfl, hm, by omega⟩)))
    · exact reads22_exit s f w h1 H.sz H.w H.h H.top H.dp H.mt H.co r g b q ((0 : Nat) : Int) en 0 0 hr (Or.inr (Or.inl ⟨rfl, fun h => hm (Or.inl h), fun h => hm (Or.inr h)⟩))
end Go.Proofs.YtlfbaggcfaenlaaGreat
