/- Parts of the proofs: what they lean on. Conditions: none. -/
import Derived.Test.YtfabdppicogkmaaGreatGsfS13
section
namespace Go.Proofs.YtfabdppicogkmaaGreat
open Go.RowKit
set_option linter.unusedVariables false
set_option maxRecDepth 100000
theorem Afy:(((Ji.drop 0).take 2).all fun p=>qaR (Ap Tryz.prog HH XK 3000 39 p.1 []) p.2)=true:=by kernel_rfl
theorem Afo:(((Ji.drop 2).take 2).all fun p=>qaR (Ap Tryz.prog HH XK 3000 39 p.1 []) p.2)=true:=by kernel_rfl
theorem Afw:(((Ji.drop 4).take 2).all fun p=>qaR (Ap Tryz.prog HH XK 3000 39 p.1 []) p.2)=true:=by kernel_rfl
theorem Aej:(((Ji.drop 6).take 2).all fun p=>qaR (Ap Tryz.prog HH XK 3000 39 p.1 []) p.2)=true:=by kernel_rfl
theorem Agb:(((Ji.drop 8).take 2).all fun p=>qaR (Ap Tryz.prog HH XK 3000 39 p.1 []) p.2)=true:=by kernel_rfl
theorem Ae8:((Ji.drop 10).all fun p=>qaR (Ap Tryz.prog HH XK 3000 39 p.1 []) p.2)=true:=rfl
theorem Adz:((Ji.drop 8).all fun p=>qaR (Ap Tryz.prog HH XK 3000 39 p.1 []) p.2)=true:=Bk 2 Agb Ae8
theorem Ads:((Ji.drop 6).all fun p=>qaR (Ap Tryz.prog HH XK 3000 39 p.1 []) p.2)=true:=Bk 2 Aej Adz
theorem Ag7:((Ji.drop 4).all fun p=>qaR (Ap Tryz.prog HH XK 3000 39 p.1 []) p.2)=true:=Bk 2 Afw Ads
theorem Ad1:((Ji.drop 2).all fun p=>qaR (Ap Tryz.prog HH XK 3000 39 p.1 []) p.2)=true:=Bk 2 Afo Ag7
theorem Adl:((Ji.drop 0).all fun p=>qaR (Ap Tryz.prog HH XK 3000 39 p.1 []) p.2)=true:=Bk 2 Afy Ad1
theorem Akq:(Ji.all fun p=>qaR (Ap Tryz.prog HH XK 3000 39 p.1 []) p.2)=true:=Adl
end Go.Proofs.YtfabdppicogkmaaGreat
end
