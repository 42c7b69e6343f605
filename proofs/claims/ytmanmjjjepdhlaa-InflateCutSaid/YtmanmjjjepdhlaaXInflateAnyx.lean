-- Written by this session's own program wip/xprint.py: a changed copy of the kit's print.
import Derived.Test.YtmanmjjjepdhlaaXInflateAnyx0
import Derived.Test.YtmanmjjjepdhlaaXInflateAnyx1
import Derived.Test.YtmanmjjjepdhlaaXInflateAnyx2
import Derived.Test.YtmanmjjjepdhlaaXInflateAnyx3
import Derived.Test.YtmanmjjjepdhlaaXInflateAnyx4
import Derived.Test.YtmanmjjjepdhlaaXInflateAnyx5
import Derived.Test.YtmanmjjjepdhlaaXInflateAnyx6
namespace Go.Proofs.Ytmanmjjjepdhlaa.XInflateAny
open Go.RowKit Go.Proofs.YtmanmjjjepdhlaaW.PrintWords Go.Proofs.YtmanmjjjepdhlaaW.PrintLast Go.Proofs.YtmanmjjjepdhlaaW.PrintMore
attribute [local go_sem] max2_int min2_int max_two min_two max_three min_three max_four min_four   -- for this text's walks alone
set_option linter.unusedVariables false
set_option linter.unusedSimpArgs false

end Go.Proofs.Ytmanmjjjepdhlaa.XInflateAny
