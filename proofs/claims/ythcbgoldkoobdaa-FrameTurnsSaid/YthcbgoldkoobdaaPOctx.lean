-- Written by this session's program gprint.py out of the translation; Lean checks it.
import Derived.Test.YthcbgoldkoobdaaPOctx0
import Derived.Test.YthcbgoldkoobdaaPOctx1
import Derived.Test.YthcbgoldkoobdaaPOctx2
import Derived.Test.YthcbgoldkoobdaaPOctx3
import Derived.Test.YthcbgoldkoobdaaPOctx4
import Derived.Test.YthcbgoldkoobdaaPOctx5
import Derived.Test.YthcbgoldkoobdaaPOctx6
import Derived.Test.YthcbgoldkoobdaaPOctx7
import Derived.Test.YthcbgoldkoobdaaPOctx8
import Derived.Test.YthcbgoldkoobdaaPOctx9
import Derived.Test.YthcbgoldkoobdaaPOctx10
import Derived.Test.YthcbgoldkoobdaaPOctx11
namespace Go.Proofs.Ythcbgoldkoobdaa.POct
open Go.RowKit Go.Proofs.YthcbgoldkoobdaaW.PrintWords Go.Proofs.YthcbgoldkoobdaaW.PrintLast Go.Proofs.YthcbgoldkoobdaaW.PrintMore Go.Proofs.Ythcbgoldkoobdaa.Given
attribute [local go_sem] max2_int min2_int max_two min_two max_three min_three max_four min_four   -- for this text's walks alone
set_option linter.unusedVariables false
set_option linter.unusedSimpArgs false

end Go.Proofs.Ythcbgoldkoobdaa.POct
