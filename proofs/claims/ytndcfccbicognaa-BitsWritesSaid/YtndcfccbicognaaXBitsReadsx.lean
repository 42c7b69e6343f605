-- Written by this session's own program wip/xprint.py: a changed copy of the kit's print.
import Derived.Test.YtndcfccbicognaaXBitsReadsx0
import Derived.Test.YtndcfccbicognaaXBitsReadsx1
import Derived.Test.YtndcfccbicognaaXBitsReadsx2
namespace Go.Proofs.Ytndcfccbicognaa.XBitsReads
open Go.RowKit Go.Proofs.YtndcfccbicognaaW.PrintWords Go.Proofs.YtndcfccbicognaaW.PrintLast Go.Proofs.YtndcfccbicognaaW.PrintMore
attribute [local go_sem] max2_int min2_int max_two min_two max_three min_three max_four min_four   -- for this text's walks alone
set_option linter.unusedVariables false
set_option linter.unusedSimpArgs false

end Go.Proofs.Ytndcfccbicognaa.XBitsReads
