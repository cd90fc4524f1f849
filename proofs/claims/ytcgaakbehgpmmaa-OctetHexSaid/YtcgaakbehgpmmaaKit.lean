/- Small lemmas beside the print's words: what is made with room, and what grows. -/
import Derived.OwnWalk
import Derived.Test.YtcgaakbehgpmmaaWWords
import Derived.Test.YtcgaakbehgpmmaaWMore
namespace Go.Proofs.YtcgaakbehgpmmaaW.PrintWords
open Go Go.RowKit
theorem R_made {α : Type} (d : Kd α) {e base n g : Nat} {w' : World} (ho : w'.ownsRow base e d.sz (.slice (some ⟨g, 0, none⟩) 0 n) 0 []) : Kd.R d e w' base (fun _ => True) (.slice (some ⟨g, 0, none⟩) 0 n) [] := ⟨fun _ _ => trivial, [], ho, Reps.none _ _⟩
theorem below_more {a w w' : World} (h : Below a.heap.size a w) (hg : w.grownBy w' none) : Below a.heap.size a w' := h.grown hg h.size (fun _ hk => by cases hk)
end Go.Proofs.YtcgaakbehgpmmaaW.PrintWords
