/- Parts of the proofs: what they lean on. Conditions: none. -/
import Derived.Test.YtfabdppicogkmaaGreatGenSafeP1
section
namespace Go.Proofs.YtfabdppicogkmaaGreat
set_option linter.unusedVariables false
set_option maxRecDepth 100000
theorem Ana:D7 O2 Q1 1 1 rk3 ta3=true:=by decide +kernel
theorem Ani:D7 O2 Q1 1 2 rk3 ta3=true:=by decide +kernel
end Go.Proofs.YtfabdppicogkmaaGreat
end
