/- Functions of the translation as plain Lean functions, and their walks: written by a program of this session's on the kit's print, for this seat. -/
import Derived.Test.YtlpdongckcaclaaMx0
import Derived.Test.YtlpdongckcaclaaMx1
import Derived.Test.YtlpdongckcaclaaMx2
import Derived.Test.YtlpdongckcaclaaMx3
import Derived.Test.YtlpdongckcaclaaMx4
import Derived.Test.YtlpdongckcaclaaMx5
import Derived.Test.YtlpdongckcaclaaMx6
import Derived.Test.YtlpdongckcaclaaMx7
import Derived.Test.YtlpdongckcaclaaMx8
namespace Go.Proofs.Ytlpdongckcaclaa.M
open Go.RowKit Go.Proofs.Ytlpdongckcaclaa.Limb Go.Proofs.Ytlpdongckcaclaa.Plain Go.Proofs.YtlpdongckcaclaaW.PrintWords Go.Proofs.YtlpdongckcaclaaW.PrintLast Go.Proofs.YtlpdongckcaclaaW.PrintMore
attribute [local go_sem] max2_int min2_int max_two min_two max_three min_three max_four min_four   -- for this text's walks alone
set_option linter.unusedVariables false
set_option linter.unusedSimpArgs false

end Go.Proofs.Ytlpdongckcaclaa.M
