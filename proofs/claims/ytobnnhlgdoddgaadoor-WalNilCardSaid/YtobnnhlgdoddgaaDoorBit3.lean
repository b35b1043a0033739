/-
  Calls that make memory. Over any program.
-/
import Derived.Test.YtobnnhlgdoddgaaDoorBit2
namespace Cr
open Go
theorem St.wide {W : World} {F : Nat → Prop} {rs : List Res} {w : World} (hS : St W noF rs w) : St W F rs w := by
  obtain ⟨h, hs, s⟩ := hS
  exact ⟨h, hs, s.agrees, fun b o e => (s.foot b o e).imp (fun h => h.elim) id, s.size, s.os, s.tape, s.output, fun b h1 _ => s.kept b h1 (fun h => h)⟩
/-- What was held and is no more touched stays, what a call made comes to it. -/
theorem St.plus {W : World} {F : Nat → Prop} {rs rs' rs'' : List Res} {w w' : World} (hS : St W F rs w) (h' : St w noF rs' w') [ha : AppR rs' rs rs''] : St W F rs'' w' := by
  obtain ⟨_, _, _, _, hbk⟩ := hS.call []
  exact hbk (h'.wide)
end Cr
