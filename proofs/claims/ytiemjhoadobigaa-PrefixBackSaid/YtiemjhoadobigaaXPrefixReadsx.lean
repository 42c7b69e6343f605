-- Written by this session's own program wip/xprint.py: a changed copy of the kit's print.
import Derived.Test.YtiemjhoadobigaaXPrefixReadsx0
import Derived.Test.YtiemjhoadobigaaXPrefixReadsx1
import Derived.Test.YtiemjhoadobigaaXPrefixReadsx2
import Derived.Test.YtiemjhoadobigaaXPrefixReadsx3
namespace Go.Proofs.Ytiemjhoadobigaa.XPrefixReads
open Go.RowKit Go.Proofs.YtiemjhoadobigaaW.PrintWords Go.Proofs.YtiemjhoadobigaaW.PrintLast Go.Proofs.YtiemjhoadobigaaW.PrintMore
attribute [local go_sem] max2_int min2_int max_two min_two max_three min_three max_four min_four   -- for this text's walks alone
set_option linter.unusedVariables false
set_option linter.unusedSimpArgs false

end Go.Proofs.Ytiemjhoadobigaa.XPrefixReads
