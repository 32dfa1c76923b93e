/- Parts of the proofs: what they lean on. Conditions: none. -/
import Derived.Test.YtfabdppicogkmaaGreatGsfS19
section
namespace Go.Proofs.YtfabdppicogkmaaGreat
open Go.RowKit
set_option linter.unusedVariables false
set_option maxRecDepth 100000
def Asf:A0k:=(24,Ha In) :: Aev
def X2:Ext:=Rh Asf
theorem Ani:(((Up.drop 0).take 2).all fun p=>qaR (Ap Tryz.prog HH X2 3000 12 p.1 []) p.2)=true:=by kernel_rfl
theorem Ao4:(((Up.drop 2).take 2).all fun p=>qaR (Ap Tryz.prog HH X2 3000 12 p.1 []) p.2)=true:=by kernel_rfl
theorem Aku:(((Up.drop 4).take 2).all fun p=>qaR (Ap Tryz.prog HH X2 3000 12 p.1 []) p.2)=true:=by kernel_rfl
theorem Alg:((Up.drop 6).all fun p=>qaR (Ap Tryz.prog HH X2 3000 12 p.1 []) p.2)=true:=rfl
theorem Akh:((Up.drop 4).all fun p=>qaR (Ap Tryz.prog HH X2 3000 12 p.1 []) p.2)=true:=Bk 2 Aku Alg
theorem Aka:((Up.drop 2).all fun p=>qaR (Ap Tryz.prog HH X2 3000 12 p.1 []) p.2)=true:=Bk 2 Ao4 Akh
theorem Amt:((Up.drop 0).all fun p=>qaR (Ap Tryz.prog HH X2 3000 12 p.1 []) p.2)=true:=Bk 2 Ani Aka
theorem Aqw:(Up.all fun p=>qaR (Ap Tryz.prog HH X2 3000 12 p.1 []) p.2)=true:=Amt
end Go.Proofs.YtfabdppicogkmaaGreat
end
