/- The walk's world, out of its own words. -/
import Derived.Test.YtkckakfkeooepaaSponge5
namespace Go.Proofs.Ytkckakfkeooepaa
set_option linter.all false
set_option linter.unusedSimpArgs false
set_option linter.unusedVariables false
set_option linter.unnecessarySimpa false
open Go.RowKit
theorem wp_gen {P : Program} {c : Code} {Q : Exit → Act → World → Prop} {a : Act} {w : World} (R : World → Prop) (h1 : R w) (h2 : ∀ W, R W → Code.wp P c Q a W) : Code.wp P c Q a w := h2 w h1
end Go.Proofs.Ytkckakfkeooepaa
