-- Written by a program of this claim: the kit's print, with contracts of this claim's own for some functions.
import Derived.Test.YtmddjfplkifdmaaQSumFindsx0
import Derived.Test.YtmddjfplkifdmaaQSumFindsx1
import Derived.Test.YtmddjfplkifdmaaQSumFindsx2
namespace Go.Proofs.Ytmddjfplkifdmaa.QSumFinds
open Go.RowKit Go.Proofs.YtmddjfplkifdmaaW.PrintWords Go.Proofs.YtmddjfplkifdmaaW.PrintLast Go.Proofs.YtmddjfplkifdmaaW.PrintMore
attribute [local go_sem] max2_int min2_int max_two min_two max_three min_three max_four min_four   -- for this text's walks alone
set_option linter.unusedVariables false
set_option linter.unusedSimpArgs false

end Go.Proofs.Ytmddjfplkifdmaa.QSumFinds
