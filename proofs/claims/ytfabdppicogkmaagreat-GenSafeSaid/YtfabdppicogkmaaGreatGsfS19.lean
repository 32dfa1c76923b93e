/- Parts of the proofs: what they lean on. Conditions: none. -/
import Derived.Test.YtfabdppicogkmaaGreatGsfS18
section
namespace Go.Proofs.YtfabdppicogkmaaGreat
open Go.RowKit
set_option linter.unusedVariables false
set_option maxRecDepth 100000
def Afp:Xd:=(79,Gw Vt) :: (72,Gw stT) :: (73,Gw clT) :: (74,Gw Hi) :: (45,Gw L7) :: (25,Gw T5) :: Aa2
def X1:Ext:=Qg Afp
theorem Afe:(((Ij.drop 0).take 1).all fun p=>qaR (Al Tryz.prog HH X1 3000 24 p.1 []) p.2)=true:=by kernel_rfl
theorem Acv:(((Ij.drop 1).take 1).all fun p=>qaR (Al Tryz.prog HH X1 3000 24 p.1 []) p.2)=true:=by kernel_rfl
theorem Aeo:(((Ij.drop 2).take 1).all fun p=>qaR (Al Tryz.prog HH X1 3000 24 p.1 []) p.2)=true:=by kernel_rfl
theorem Adi:(((Ij.drop 3).take 1).all fun p=>qaR (Al Tryz.prog HH X1 3000 24 p.1 []) p.2)=true:=by kernel_rfl
theorem Adu:(((Ij.drop 4).take 1).all fun p=>qaR (Al Tryz.prog HH X1 3000 24 p.1 []) p.2)=true:=by kernel_rfl
theorem Agi:(((Ij.drop 5).take 1).all fun p=>qaR (Al Tryz.prog HH X1 3000 24 p.1 []) p.2)=true:=by kernel_rfl
theorem Adc:((Ij.drop 6).all fun p=>qaR (Al Tryz.prog HH X1 3000 24 p.1 []) p.2)=true:=rfl
theorem Add:((Ij.drop 5).all fun p=>qaR (Al Tryz.prog HH X1 3000 24 p.1 []) p.2)=true:=Bg 1 Agi Adc
theorem Ady:((Ij.drop 4).all fun p=>qaR (Al Tryz.prog HH X1 3000 24 p.1 []) p.2)=true:=Bg 1 Adu Add
theorem Agf:((Ij.drop 3).all fun p=>qaR (Al Tryz.prog HH X1 3000 24 p.1 []) p.2)=true:=Bg 1 Adi Ady
theorem Af8:((Ij.drop 2).all fun p=>qaR (Al Tryz.prog HH X1 3000 24 p.1 []) p.2)=true:=Bg 1 Aeo Agf
theorem Aev:((Ij.drop 1).all fun p=>qaR (Al Tryz.prog HH X1 3000 24 p.1 []) p.2)=true:=Bg 1 Acv Af8
theorem Ag2:((Ij.drop 0).all fun p=>qaR (Al Tryz.prog HH X1 3000 24 p.1 []) p.2)=true:=Bg 1 Afe Aev
theorem Ali:(Ij.all fun p=>qaR (Al Tryz.prog HH X1 3000 24 p.1 []) p.2)=true:=Ag2
theorem Aez:(((I5.drop 0).take 1).all fun p=>qaR (Al Tryz.prog HH X1 3000 47 p.1 []) p.2)=true:=by kernel_rfl
theorem Afq:(((I5.drop 1).take 1).all fun p=>qaR (Al Tryz.prog HH X1 3000 47 p.1 []) p.2)=true:=by kernel_rfl
theorem Adg:(((I5.drop 2).take 1).all fun p=>qaR (Al Tryz.prog HH X1 3000 47 p.1 []) p.2)=true:=by kernel_rfl
theorem Adw:(((I5.drop 3).take 1).all fun p=>qaR (Al Tryz.prog HH X1 3000 47 p.1 []) p.2)=true:=by kernel_rfl
theorem Agh:(((I5.drop 4).take 1).all fun p=>qaR (Al Tryz.prog HH X1 3000 47 p.1 []) p.2)=true:=by kernel_rfl
theorem Ae0:(((I5.drop 5).take 1).all fun p=>qaR (Al Tryz.prog HH X1 3000 47 p.1 []) p.2)=true:=by kernel_rfl
theorem Agj:((I5.drop 6).all fun p=>qaR (Al Tryz.prog HH X1 3000 47 p.1 []) p.2)=true:=rfl
theorem Af9:((I5.drop 5).all fun p=>qaR (Al Tryz.prog HH X1 3000 47 p.1 []) p.2)=true:=Bg 1 Ae0 Agj
theorem Ad9:((I5.drop 4).all fun p=>qaR (Al Tryz.prog HH X1 3000 47 p.1 []) p.2)=true:=Bg 1 Agh Af9
theorem Aey:((I5.drop 3).all fun p=>qaR (Al Tryz.prog HH X1 3000 47 p.1 []) p.2)=true:=Bg 1 Adw Ad9
theorem Ae2:((I5.drop 2).all fun p=>qaR (Al Tryz.prog HH X1 3000 47 p.1 []) p.2)=true:=Bg 1 Adg Aey
theorem Afd:((I5.drop 1).all fun p=>qaR (Al Tryz.prog HH X1 3000 47 p.1 []) p.2)=true:=Bg 1 Afq Ae2
theorem Ad4:((I5.drop 0).all fun p=>qaR (Al Tryz.prog HH X1 3000 47 p.1 []) p.2)=true:=Bg 1 Aez Afd
theorem Ao4:(I5.all fun p=>qaR (Al Tryz.prog HH X1 3000 47 p.1 []) p.2)=true:=Ad4
end Go.Proofs.YtfabdppicogkmaaGreat
end
