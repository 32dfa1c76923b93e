/- Parts of the proofs: what they lean on. Conditions: none. -/
import Derived.Test.YtfabdppicogkmaaGreatGsfS11
section
namespace Go.Proofs.YtfabdppicogkmaaGreat
open Go.RowKit
set_option linter.unusedVariables false
set_option maxRecDepth 100000
theorem Aii:(((U0.drop 0).take 3).all fun p=>qaR (Ap Tryz.prog HH XK 3000 4 p.1 []) p.2)=true:=by kernel_rfl
theorem Ahe:(((U0.drop 3).take 3).all fun p=>qaR (Ap Tryz.prog HH XK 3000 4 p.1 []) p.2)=true:=by kernel_rfl
theorem Ai5:((U0.drop 6).all fun p=>qaR (Ap Tryz.prog HH XK 3000 4 p.1 []) p.2)=true:=rfl
theorem Aiu:((U0.drop 3).all fun p=>qaR (Ap Tryz.prog HH XK 3000 4 p.1 []) p.2)=true:=Bk 3 Ahe Ai5
theorem Aiq:((U0.drop 0).all fun p=>qaR (Ap Tryz.prog HH XK 3000 4 p.1 []) p.2)=true:=Bk 3 Aii Aiu
theorem Aox:(U0.all fun p=>qaR (Ap Tryz.prog HH XK 3000 4 p.1 []) p.2)=true:=Aiq
theorem Acy:(((Y2.drop 0).take 1).all fun p=>qaR (Ap Tryz.prog HH XK 3000 6 p.1 []) p.2)=true:=by kernel_rfl
theorem Ad6:((Y2.drop 1).all fun p=>qaR (Ap Tryz.prog HH XK 3000 6 p.1 []) p.2)=true:=rfl
theorem Ae6:((Y2.drop 0).all fun p=>qaR (Ap Tryz.prog HH XK 3000 6 p.1 []) p.2)=true:=Bk 1 Acy Ad6
theorem Ang:(Y2.all fun p=>qaR (Ap Tryz.prog HH XK 3000 6 p.1 []) p.2)=true:=Ae6
end Go.Proofs.YtfabdppicogkmaaGreat
end
