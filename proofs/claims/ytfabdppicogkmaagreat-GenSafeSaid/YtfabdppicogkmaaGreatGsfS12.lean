/- Parts of the proofs: what they lean on. Conditions: none. -/
import Derived.Test.YtfabdppicogkmaaGreatGsfS11
section
namespace Go.Proofs.YtfabdppicogkmaaGreat
open Go.RowKit
set_option linter.unusedVariables false
set_option maxRecDepth 100000
theorem Ahh:(((U5.drop 0).take 3).all fun p=>qaR (Al Tryz.prog HH XK 3000 4 p.1 []) p.2)=true:=by kernel_rfl
theorem Ajk:(((U5.drop 3).take 3).all fun p=>qaR (Al Tryz.prog HH XK 3000 4 p.1 []) p.2)=true:=by kernel_rfl
theorem Aij:((U5.drop 6).all fun p=>qaR (Al Tryz.prog HH XK 3000 4 p.1 []) p.2)=true:=rfl
theorem Aj2:((U5.drop 3).all fun p=>qaR (Al Tryz.prog HH XK 3000 4 p.1 []) p.2)=true:=Bg 3 Ajk Aij
theorem Ah6:((U5.drop 0).all fun p=>qaR (Al Tryz.prog HH XK 3000 4 p.1 []) p.2)=true:=Bg 3 Ahh Aj2
theorem Aqb:(U5.all fun p=>qaR (Al Tryz.prog HH XK 3000 4 p.1 []) p.2)=true:=Ah6
theorem Af6:(((Yw.drop 0).take 1).all fun p=>qaR (Al Tryz.prog HH XK 3000 6 p.1 []) p.2)=true:=by kernel_rfl
theorem Aei:((Yw.drop 1).all fun p=>qaR (Al Tryz.prog HH XK 3000 6 p.1 []) p.2)=true:=rfl
theorem Aes:((Yw.drop 0).all fun p=>qaR (Al Tryz.prog HH XK 3000 6 p.1 []) p.2)=true:=Bg 1 Af6 Aei
theorem Anx:(Yw.all fun p=>qaR (Al Tryz.prog HH XK 3000 6 p.1 []) p.2)=true:=Aes
end Go.Proofs.YtfabdppicogkmaaGreat
end
