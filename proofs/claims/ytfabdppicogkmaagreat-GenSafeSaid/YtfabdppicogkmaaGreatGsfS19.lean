/- Parts of the proofs: what they lean on. Conditions: none. -/
import Derived.Test.YtfabdppicogkmaaGreatGsfS18
section
namespace Go.Proofs.YtfabdppicogkmaaGreat
open Go.RowKit
set_option linter.unusedVariables false
set_option maxRecDepth 100000
def Aev:A0k:=(79,Ha Wl) :: (72,Ha stT) :: (73,Ha clT) :: (74,Ha Hk) :: (45,Ha L0) :: (25,Ha Td) :: Afp
def X1:Ext:=Rh Aev
theorem Aea:(((In.drop 0).take 1).all fun p=>qaR (Ap Tryz.prog HH X1 3000 24 p.1 []) p.2)=true:=by kernel_rfl
theorem Af9:(((In.drop 1).take 1).all fun p=>qaR (Ap Tryz.prog HH X1 3000 24 p.1 []) p.2)=true:=by kernel_rfl
theorem Adf:(((In.drop 2).take 1).all fun p=>qaR (Ap Tryz.prog HH X1 3000 24 p.1 []) p.2)=true:=by kernel_rfl
theorem Aeb:(((In.drop 3).take 1).all fun p=>qaR (Ap Tryz.prog HH X1 3000 24 p.1 []) p.2)=true:=by kernel_rfl
theorem Ad0:(((In.drop 4).take 1).all fun p=>qaR (Ap Tryz.prog HH X1 3000 24 p.1 []) p.2)=true:=by kernel_rfl
theorem Agf:(((In.drop 5).take 1).all fun p=>qaR (Ap Tryz.prog HH X1 3000 24 p.1 []) p.2)=true:=by kernel_rfl
theorem Adq:((In.drop 6).all fun p=>qaR (Ap Tryz.prog HH X1 3000 24 p.1 []) p.2)=true:=rfl
theorem Aft:((In.drop 5).all fun p=>qaR (Ap Tryz.prog HH X1 3000 24 p.1 []) p.2)=true:=Bk 1 Agf Adq
theorem Afj:((In.drop 4).all fun p=>qaR (Ap Tryz.prog HH X1 3000 24 p.1 []) p.2)=true:=Bk 1 Ad0 Aft
theorem Afc:((In.drop 3).all fun p=>qaR (Ap Tryz.prog HH X1 3000 24 p.1 []) p.2)=true:=Bk 1 Aeb Afj
theorem Adv:((In.drop 2).all fun p=>qaR (Ap Tryz.prog HH X1 3000 24 p.1 []) p.2)=true:=Bk 1 Adf Afc
theorem Adj:((In.drop 1).all fun p=>qaR (Ap Tryz.prog HH X1 3000 24 p.1 []) p.2)=true:=Bk 1 Af9 Adv
theorem Ad4:((In.drop 0).all fun p=>qaR (Ap Tryz.prog HH X1 3000 24 p.1 []) p.2)=true:=Bk 1 Aea Adj
theorem Ak9:(In.all fun p=>qaR (Ap Tryz.prog HH X1 3000 24 p.1 []) p.2)=true:=Ad4
theorem Adu:(((I4.drop 0).take 1).all fun p=>qaR (Ap Tryz.prog HH X1 3000 47 p.1 []) p.2)=true:=by kernel_rfl
theorem Aew:(((I4.drop 1).take 1).all fun p=>qaR (Ap Tryz.prog HH X1 3000 47 p.1 []) p.2)=true:=by kernel_rfl
theorem Afm:(((I4.drop 2).take 1).all fun p=>qaR (Ap Tryz.prog HH X1 3000 47 p.1 []) p.2)=true:=by kernel_rfl
theorem Ad2:(((I4.drop 3).take 1).all fun p=>qaR (Ap Tryz.prog HH X1 3000 47 p.1 []) p.2)=true:=by kernel_rfl
theorem Afq:(((I4.drop 4).take 1).all fun p=>qaR (Ap Tryz.prog HH X1 3000 47 p.1 []) p.2)=true:=by kernel_rfl
theorem Ae1:(((I4.drop 5).take 1).all fun p=>qaR (Ap Tryz.prog HH X1 3000 47 p.1 []) p.2)=true:=by kernel_rfl
theorem Ae9:((I4.drop 6).all fun p=>qaR (Ap Tryz.prog HH X1 3000 47 p.1 []) p.2)=true:=rfl
theorem Aex:((I4.drop 5).all fun p=>qaR (Ap Tryz.prog HH X1 3000 47 p.1 []) p.2)=true:=Bk 1 Ae1 Ae9
theorem Adn:((I4.drop 4).all fun p=>qaR (Ap Tryz.prog HH X1 3000 47 p.1 []) p.2)=true:=Bk 1 Afq Aex
theorem Aeh:((I4.drop 3).all fun p=>qaR (Ap Tryz.prog HH X1 3000 47 p.1 []) p.2)=true:=Bk 1 Ad2 Adn
theorem Ad9:((I4.drop 2).all fun p=>qaR (Ap Tryz.prog HH X1 3000 47 p.1 []) p.2)=true:=Bk 1 Afm Aeh
theorem Adg:((I4.drop 1).all fun p=>qaR (Ap Tryz.prog HH X1 3000 47 p.1 []) p.2)=true:=Bk 1 Aew Ad9
theorem Aed:((I4.drop 0).all fun p=>qaR (Ap Tryz.prog HH X1 3000 47 p.1 []) p.2)=true:=Bk 1 Adu Adg
theorem Al9:(I4.all fun p=>qaR (Ap Tryz.prog HH X1 3000 47 p.1 []) p.2)=true:=Aed
end Go.Proofs.YtfabdppicogkmaaGreat
end
