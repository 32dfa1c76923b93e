/- Parts of the proofs: what they lean on. Conditions: none. -/
import Derived.Test.YtfabdppicogkmaaGreatGsfS16
section
namespace Go.Proofs.YtfabdppicogkmaaGreat
open Go.RowKit
set_option linter.unusedVariables false
set_option maxRecDepth 100000
theorem Aoy:(((stT.drop 0).take 1).all fun p=>qaR (Ap Tryz.prog HH XK 3000 72 p.1 []) p.2)=true:=by kernel_rfl
theorem Apm:(((stT.drop 1).take 1).all fun p=>qaR (Ap Tryz.prog HH XK 3000 72 p.1 []) p.2)=true:=by kernel_rfl
theorem Aqc:(((stT.drop 2).take 1).all fun p=>qaR (Ap Tryz.prog HH XK 3000 72 p.1 []) p.2)=true:=by kernel_rfl
theorem Aot:(((stT.drop 3).take 1).all fun p=>qaR (Ap Tryz.prog HH XK 3000 72 p.1 []) p.2)=true:=by kernel_rfl
theorem Aps:((stT.drop 4).all fun p=>qaR (Ap Tryz.prog HH XK 3000 72 p.1 []) p.2)=true:=rfl
theorem Aow:((stT.drop 3).all fun p=>qaR (Ap Tryz.prog HH XK 3000 72 p.1 []) p.2)=true:=Bk 1 Aot Aps
theorem Aqg:((stT.drop 2).all fun p=>qaR (Ap Tryz.prog HH XK 3000 72 p.1 []) p.2)=true:=Bk 1 Aqc Aow
theorem Apu:((stT.drop 1).all fun p=>qaR (Ap Tryz.prog HH XK 3000 72 p.1 []) p.2)=true:=Bk 1 Apm Aqg
theorem Apq:((stT.drop 0).all fun p=>qaR (Ap Tryz.prog HH XK 3000 72 p.1 []) p.2)=true:=Bk 1 Aoy Apu
theorem Art:(stT.all fun p=>qaR (Ap Tryz.prog HH XK 3000 72 p.1 []) p.2)=true:=Apq
end Go.Proofs.YtfabdppicogkmaaGreat
end
