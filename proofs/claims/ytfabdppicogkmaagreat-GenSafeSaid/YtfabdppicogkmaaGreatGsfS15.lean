/- Parts of the proofs: what they lean on. Conditions: none. -/
import Derived.Test.YtfabdppicogkmaaGreatGsfS14
section
namespace Go.Proofs.YtfabdppicogkmaaGreat
open Go.RowKit
set_option linter.unusedVariables false
set_option maxRecDepth 100000
theorem Ams:(((T5.drop 0).take 1).all fun p=>qaR (Al Tryz.prog HH XK 3000 25 p.1 []) p.2)=true:=by kernel_rfl
theorem Anb:(((T5.drop 1).take 1).all fun p=>qaR (Al Tryz.prog HH XK 3000 25 p.1 []) p.2)=true:=by kernel_rfl
theorem Alu:(((T5.drop 2).take 1).all fun p=>qaR (Al Tryz.prog HH XK 3000 25 p.1 []) p.2)=true:=by kernel_rfl
theorem Amc:(((T5.drop 3).take 1).all fun p=>qaR (Al Tryz.prog HH XK 3000 25 p.1 []) p.2)=true:=by kernel_rfl
theorem Al5:((T5.drop 4).all fun p=>qaR (Al Tryz.prog HH XK 3000 25 p.1 []) p.2)=true:=rfl
theorem Alg:((T5.drop 3).all fun p=>qaR (Al Tryz.prog HH XK 3000 25 p.1 []) p.2)=true:=Bg 1 Amc Al5
theorem Alp:((T5.drop 2).all fun p=>qaR (Al Tryz.prog HH XK 3000 25 p.1 []) p.2)=true:=Bg 1 Alu Alg
theorem Alb:((T5.drop 1).all fun p=>qaR (Al Tryz.prog HH XK 3000 25 p.1 []) p.2)=true:=Bg 1 Anb Alp
theorem Amm:((T5.drop 0).all fun p=>qaR (Al Tryz.prog HH XK 3000 25 p.1 []) p.2)=true:=Bg 1 Ams Alb
theorem As4:(T5.all fun p=>qaR (Al Tryz.prog HH XK 3000 25 p.1 []) p.2)=true:=Amm
end Go.Proofs.YtfabdppicogkmaaGreat
end
