/- Parts of the proofs: what they lean on. Conditions: none. -/
import Derived.Test.YtfabdppicogkmaaGreatGenSafeP3
section
namespace Go.Proofs.YtfabdppicogkmaaGreat
set_option linter.unusedVariables false
set_option maxRecDepth 100000
theorem Akx:D7 O2 Q1 3 1 rk5 ta5=true:=by decide +kernel
theorem Amf:D7 O2 Q1 3 2 rk5 ta5=true:=by decide +kernel
end Go.Proofs.YtfabdppicogkmaaGreat
end
