-- Written by this session's program gprint.py out of the translation; Lean checks it.
import Derived.Test.YthhbddmokgbdkaaPNamx0
import Derived.Test.YthhbddmokgbdkaaPNamx1
import Derived.Test.YthhbddmokgbdkaaPNamx2
import Derived.Test.YthhbddmokgbdkaaPNamx3
import Derived.Test.YthhbddmokgbdkaaPNamx4
import Derived.Test.YthhbddmokgbdkaaPNamx5
import Derived.Test.YthhbddmokgbdkaaPNamx6
import Derived.Test.YthhbddmokgbdkaaPNamx7
import Derived.Test.YthhbddmokgbdkaaPNamx8
import Derived.Test.YthhbddmokgbdkaaPNamx9
import Derived.Test.YthhbddmokgbdkaaPNamx10
namespace Go.Proofs.Ythhbddmokgbdkaa.PNam
open Go.RowKit Go.Proofs.YthhbddmokgbdkaaW.PrintWords Go.Proofs.YthhbddmokgbdkaaW.PrintLast Go.Proofs.YthhbddmokgbdkaaW.PrintMore Go.Proofs.Ythhbddmokgbdkaa.Given
attribute [local go_sem] max2_int min2_int max_two min_two max_three min_three max_four min_four   -- for this text's walks alone
set_option linter.unusedVariables false
set_option linter.unusedSimpArgs false

end Go.Proofs.Ythhbddmokgbdkaa.PNam
