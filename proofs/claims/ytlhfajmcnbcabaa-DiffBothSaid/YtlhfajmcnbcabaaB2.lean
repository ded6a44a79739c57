/- For every two changes, layer 14's law DiffBoth returns true and leaves both as they were: the union of two changes goes either way round, holds nothing twice, takes nothing more from what it has, and is empty just where both are. No condition. -/
import Derived.Test.YtlhfajmcnbcabaaA20
import Derived.Test.YtlhfajmcnbcabaaB1
set_option linter.unusedVariables false
set_option linter.unusedSimpArgs false
namespace Go.Proofs.Ytlhfajmcnbcabaa
theorem diffBoth_holds : Rows.DiffBothSaid := both_over diffBothT
end Go.Proofs.Ytlhfajmcnbcabaa
