/- Plain laws of proofs: what the laws compare. -/
import Derived.Test.YthdlfclkcdnenaaDoorRUp
import Derived.Test.YthdlfclkcdnenaaDoorRUa
import Derived.Test.YthdlfclkcdnenaaDoorRGl
import Derived.Test.YthdlfclkcdnenaaDoorRUf
import Derived.Test.YthdlfclkcdnenaaDoorRGr
set_option linter.unusedSimpArgs false
set_option linter.unusedVariables false
namespace Go.Proofs.YthdlfclkcdnenaaDoor.Pure
open Go.WG Go.Proofs.YthdlfclkcdnenaaDoor
theorem okB33 {x : List Int} (h : ok33 x) : x.length = 32 ∧ AllB x := ⟨h.1, fun y hy => wf8 (h.2 y hy)⟩
theorem okB28 {x : List Int} (h : ok28 x) : AllB x := fun y hy => wf8 (h.2 y hy)
theorem okE {l : List (List Int)} (h : ok31 l) : AllE l := fun d hd => okB33 (h.2 d hd)
end Go.Proofs.YthdlfclkcdnenaaDoor.Pure
