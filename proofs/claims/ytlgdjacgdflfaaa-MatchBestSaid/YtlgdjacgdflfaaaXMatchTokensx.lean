-- Written by this session's own program wip/xprint.py: a changed copy of the kit's print.
import Derived.Test.YtlgdjacgdflfaaaXMatchTokensx0
import Derived.Test.YtlgdjacgdflfaaaXMatchTokensx1
import Derived.Test.YtlgdjacgdflfaaaXMatchTokensx2
namespace Go.Proofs.Ytlgdjacgdflfaaa.XMatchTokens
open Go.RowKit Go.Proofs.YtlgdjacgdflfaaaW.PrintWords Go.Proofs.YtlgdjacgdflfaaaW.PrintLast Go.Proofs.YtlgdjacgdflfaaaW.PrintMore
attribute [local go_sem] max2_int min2_int max_two min_two max_three min_three max_four min_four   -- for this text's walks alone
set_option linter.unusedVariables false
set_option linter.unusedSimpArgs false

end Go.Proofs.Ytlgdjacgdflfaaa.XMatchTokens
