/- Parts of the proofs: what they lean on. Conditions: none. -/
import Derived.Test.YtfabdppicogkmaaGreatGenSafeP3
section
namespace Go.Proofs.YtfabdppicogkmaaGreat
set_option linter.unusedSectionVars false
set_option linter.unusedVariables false
set_option maxRecDepth 100000
theorem Amh:D7 O7 Q0 3 1 rk5 ta5=true:=by decide +kernel
theorem Ame:D7 O7 Q0 3 2 rk5 ta5=true:=by decide +kernel
end Go.Proofs.YtfabdppicogkmaaGreat
end
