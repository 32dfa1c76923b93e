/- Types of the printed models. Parts of the proofs of the laws. Conditions: none. -/
import Derived.Test.YtaocgmkcjemecaaSimP
namespace Go.Proofs.Ytaocgmkcjemecaa
set_option linter.unusedVariables false
structure S_bound_number_int64_ where
  f_n : Int
  deriving DecidableEq, Inhabited
def c_bound_number_int64_ (x : S_bound_number_int64_) : List AV := [AV.int .i64 (x.f_n)]
end Go.Proofs.Ytaocgmkcjemecaa
