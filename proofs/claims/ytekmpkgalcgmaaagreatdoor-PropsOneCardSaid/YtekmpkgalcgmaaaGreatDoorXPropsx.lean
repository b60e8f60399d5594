/- What the statement Props reaches, as Lean functions, each with a proof that the Go function's call comes to just its answers; no condition but those of each theorem. Written by a program of this session over the kit's print. -/
import Derived.Test.YtekmpkgalcgmaaaGreatDoorXPropsx0
import Derived.Test.YtekmpkgalcgmaaaGreatDoorXPropsx1
import Derived.Test.YtekmpkgalcgmaaaGreatDoorXPropsx2
import Derived.Test.YtekmpkgalcgmaaaGreatDoorXPropsx3
import Derived.Test.YtekmpkgalcgmaaaGreatDoorXPropsx4
import Derived.Test.YtekmpkgalcgmaaaGreatDoorXPropsx5
import Derived.Test.YtekmpkgalcgmaaaGreatDoorXPropsx6
namespace Go.Proofs.YtekmpkgalcgmaaaGreatDoor.XProps
open Go.Proofs.YtekmpkgalcgmaaaGreatDoorX Go.RowKit Go.Proofs.YtekmpkgalcgmaaaGreatDoorW.PrintWords Go.Proofs.YtekmpkgalcgmaaaGreatDoorW.PrintLast Go.Proofs.YtekmpkgalcgmaaaGreatDoorW.PrintMore
attribute [local go_sem] max2_int min2_int max_two min_two max_three min_three max_four min_four   -- for this text's walks alone
set_option linter.unusedVariables false
set_option linter.unusedSimpArgs false

end Go.Proofs.YtekmpkgalcgmaaaGreatDoor.XProps
