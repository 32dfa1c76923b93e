/- Parts of the proofs: what they lean on. Conditions: none. -/
import Derived.Test.YtfabdppicogkmaaGreatGenSafeP2
section
namespace Go.Proofs.YtfabdppicogkmaaGreat
set_option linter.unusedVariables false
set_option maxRecDepth 100000
theorem Ang:D7 O2 Q1 2 1 rk4 ta4=true:=by decide +kernel
theorem An7:D7 O2 Q1 2 2 rk4 ta4=true:=by decide +kernel
end Go.Proofs.YtfabdppicogkmaaGreat
end
