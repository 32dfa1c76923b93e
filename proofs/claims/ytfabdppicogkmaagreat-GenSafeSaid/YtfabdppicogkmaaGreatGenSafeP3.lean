/- Parts of the proofs: what they lean on. Conditions: none. -/
import Derived.Test.YtfabdppicogkmaaGreatGenSafeP2
section
namespace Go.Proofs.YtfabdppicogkmaaGreat
set_option linter.unusedSectionVars false
set_option linter.unusedVariables false
set_option maxRecDepth 100000
theorem Anm:D7 O7 Q0 2 1 rk4 ta4=true:=by decide +kernel
theorem An2:D7 O7 Q0 2 2 rk4 ta4=true:=by decide +kernel
end Go.Proofs.YtfabdppicogkmaaGreat
end
