/- Parts of the proofs: what they lean on. Conditions: none. -/
import Derived.Test.YtfabdppicogkmaaGreatGsfS19
section
namespace Go.Proofs.YtfabdppicogkmaaGreat
open Go.RowKit
set_option linter.unusedVariables false
set_option maxRecDepth 100000
def Asw:Xd:=(24,Gw Ij) :: Afp
def X2:Ext:=Qg Asw
theorem Al9:(((Uq.drop 0).take 2).all fun p=>qaR (Al Tryz.prog HH X2 3000 12 p.1 []) p.2)=true:=by kernel_rfl
theorem Am4:(((Uq.drop 2).take 2).all fun p=>qaR (Al Tryz.prog HH X2 3000 12 p.1 []) p.2)=true:=by kernel_rfl
theorem Aoa:(((Uq.drop 4).take 2).all fun p=>qaR (Al Tryz.prog HH X2 3000 12 p.1 []) p.2)=true:=by kernel_rfl
theorem Am1:((Uq.drop 6).all fun p=>qaR (Al Tryz.prog HH X2 3000 12 p.1 []) p.2)=true:=rfl
theorem Akr:((Uq.drop 4).all fun p=>qaR (Al Tryz.prog HH X2 3000 12 p.1 []) p.2)=true:=Bg 2 Aoa Am1
theorem Ala:((Uq.drop 2).all fun p=>qaR (Al Tryz.prog HH X2 3000 12 p.1 []) p.2)=true:=Bg 2 Am4 Akr
theorem Al6:((Uq.drop 0).all fun p=>qaR (Al Tryz.prog HH X2 3000 12 p.1 []) p.2)=true:=Bg 2 Al9 Ala
theorem Arv:(Uq.all fun p=>qaR (Al Tryz.prog HH X2 3000 12 p.1 []) p.2)=true:=Al6
end Go.Proofs.YtfabdppicogkmaaGreat
end
