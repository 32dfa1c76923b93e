/- Parts of the proofs: what they lean on. Conditions: none. -/
import Derived.Test.YtfabdppicogkmaaGreatGenSafeP1
section
namespace Go.Proofs.YtfabdppicogkmaaGreat
set_option linter.unusedSectionVars false
set_option linter.unusedVariables false
set_option maxRecDepth 100000
theorem Alk:D7 O7 Q0 1 1 rk3 ta3=true:=by decide +kernel
theorem Akl:D7 O7 Q0 1 2 rk3 ta3=true:=by decide +kernel
end Go.Proofs.YtfabdppicogkmaaGreat
end
