-- Written by this session's own program wip/xprint.py: a changed copy of the kit's print.
import Derived.Test.YtndcfccbicognaaXRunsUnpackx0
import Derived.Test.YtndcfccbicognaaXRunsUnpackx1
import Derived.Test.YtndcfccbicognaaXRunsUnpackx2
import Derived.Test.YtndcfccbicognaaXRunsUnpackx3
import Derived.Test.YtndcfccbicognaaXRunsUnpackx4
import Derived.Test.YtndcfccbicognaaXRunsUnpackx5
namespace Go.Proofs.Ytndcfccbicognaa.XRunsUnpack
open Go.RowKit Go.Proofs.YtndcfccbicognaaW.PrintWords Go.Proofs.YtndcfccbicognaaW.PrintLast Go.Proofs.YtndcfccbicognaaW.PrintMore
attribute [local go_sem] max2_int min2_int max_two min_two max_three min_three max_four min_four   -- for this text's walks alone
set_option linter.unusedVariables false
set_option linter.unusedSimpArgs false

end Go.Proofs.Ytndcfccbicognaa.XRunsUnpack
