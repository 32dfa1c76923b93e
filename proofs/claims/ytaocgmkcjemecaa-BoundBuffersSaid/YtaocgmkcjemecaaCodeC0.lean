/- The program's operators. Parts of the proofs of the laws of layers 6 to 22. Conditions: none. -/
import Derived.Test.YtaocgmkcjemecaaCodeA
import Derived.Laws.EntriesVeiled
namespace Go.Proofs.Ytaocgmkcjemecaa
open Go.RowKit
set_option linter.unusedVariables false
set_option linter.unusedSimpArgs false

def takesOf (op : Int) : Int := if op = 5 then 1 else if 6 ≤ op ∧ op ≤ 14 then 2 else 0
def doVal (op : Int) : Value :=
  if op = 5 then .func (.func 119) #[] #[]
  else if op = 6 then .func (.func 121) #[] #[]
  else if op = 7 then .func (.func 122) #[] #[]
  else if op = 8 then .func (.func 123) #[] #[]
  else if op = 9 then .func (.func 124) #[] #[]
  else if op = 10 then .func (.func 125) #[] #[]
  else if op = 11 then .func (.func 126) #[] #[]
  else if op = 12 then .func (.func 127) #[] #[]
  else if op = 13 then .func (.func 128) #[] #[]
  else if op = 14 then .func (.func 129) #[] #[]
  else .nilFunc

def OfPost (op : Int) (w : World) (e : Ending) (w' : World) : Prop := e = .returned (.tuple #[.agg #[.int .i64 (takesOf op), doVal op], .bool (decide (5 ≤ op ∧ op ≤ 14))]) ∧ Below w.heap.size w w'

end Go.Proofs.Ytaocgmkcjemecaa
