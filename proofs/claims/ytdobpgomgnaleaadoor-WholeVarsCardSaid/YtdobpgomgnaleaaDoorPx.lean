/- The machine's side: functions of the translation as plain Lean functions, and that the machine's calls come to what they say. No condition. Written by a program (wip/tools/pp.py over the kit's printer); Lean checks it. -/
import Derived.Test.YtdobpgomgnaleaaDoorPx0
import Derived.Test.YtdobpgomgnaleaaDoorPx1
import Derived.Test.YtdobpgomgnaleaaDoorPx2
import Derived.Test.YtdobpgomgnaleaaDoorPx3
import Derived.Test.YtdobpgomgnaleaaDoorPx4
import Derived.Test.YtdobpgomgnaleaaDoorPx5
import Derived.Test.YtdobpgomgnaleaaDoorPx6
import Derived.Test.YtdobpgomgnaleaaDoorPx7
import Derived.Test.YtdobpgomgnaleaaDoorPx8
import Derived.Test.YtdobpgomgnaleaaDoorPx9
import Derived.Test.YtdobpgomgnaleaaDoorPx10
import Derived.Test.YtdobpgomgnaleaaDoorPx11
import Derived.Test.YtdobpgomgnaleaaDoorPx12
import Derived.Test.YtdobpgomgnaleaaDoorPx13
import Derived.Test.YtdobpgomgnaleaaDoorPx14
namespace Go.Proofs.YtdobpgomgnaleaaDoor.P
open Go.RowKit Go.Proofs.YtdobpgomgnaleaaDoorW.PrintWords Go.Proofs.YtdobpgomgnaleaaDoorW.PrintLast Go.Proofs.YtdobpgomgnaleaaDoorW.PrintMore
attribute [local go_sem] max2_int min2_int max_two min_two max_three min_three max_four min_four   -- for this text's walks alone
set_option linter.unusedVariables false
set_option linter.unusedSimpArgs false

end Go.Proofs.YtdobpgomgnaleaaDoor.P
