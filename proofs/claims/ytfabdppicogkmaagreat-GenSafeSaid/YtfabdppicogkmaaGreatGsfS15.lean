/- Parts of the proofs: what they lean on. Conditions: none. -/
import Derived.Test.YtfabdppicogkmaaGreatGsfS14
section
namespace Go.Proofs.YtfabdppicogkmaaGreat
open Go.RowKit
set_option linter.unusedVariables false
set_option maxRecDepth 100000
theorem Anr:(((Td.drop 0).take 1).all fun p=>qaR (Ap Tryz.prog HH XK 3000 25 p.1 []) p.2)=true:=by kernel_rfl
theorem Akp:(((Td.drop 1).take 1).all fun p=>qaR (Ap Tryz.prog HH XK 3000 25 p.1 []) p.2)=true:=by kernel_rfl
theorem Akk:(((Td.drop 2).take 1).all fun p=>qaR (Ap Tryz.prog HH XK 3000 25 p.1 []) p.2)=true:=by kernel_rfl
theorem Am9:(((Td.drop 3).take 1).all fun p=>qaR (Ap Tryz.prog HH XK 3000 25 p.1 []) p.2)=true:=by kernel_rfl
theorem An6:((Td.drop 4).all fun p=>qaR (Ap Tryz.prog HH XK 3000 25 p.1 []) p.2)=true:=rfl
theorem Alp:((Td.drop 3).all fun p=>qaR (Ap Tryz.prog HH XK 3000 25 p.1 []) p.2)=true:=Bk 1 Am9 An6
theorem Anf:((Td.drop 2).all fun p=>qaR (Ap Tryz.prog HH XK 3000 25 p.1 []) p.2)=true:=Bk 1 Akk Alp
theorem Alc:((Td.drop 1).all fun p=>qaR (Ap Tryz.prog HH XK 3000 25 p.1 []) p.2)=true:=Bk 1 Akp Anf
theorem Akm:((Td.drop 0).all fun p=>qaR (Ap Tryz.prog HH XK 3000 25 p.1 []) p.2)=true:=Bk 1 Anr Alc
theorem Ard:(Td.all fun p=>qaR (Ap Tryz.prog HH XK 3000 25 p.1 []) p.2)=true:=Akm
end Go.Proofs.YtfabdppicogkmaaGreat
end
