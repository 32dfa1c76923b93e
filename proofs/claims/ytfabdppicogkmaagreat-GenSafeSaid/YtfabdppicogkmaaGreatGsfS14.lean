/- Parts of the proofs: what they lean on. Conditions: none. -/
import Derived.Test.YtfabdppicogkmaaGreatGsfS13
section
namespace Go.Proofs.YtfabdppicogkmaaGreat
open Go.RowKit
set_option linter.unusedVariables false
set_option maxRecDepth 100000
theorem Aeq:(((Jc.drop 0).take 2).all fun p=>qaR (Al Tryz.prog HH XK 3000 39 p.1 []) p.2)=true:=by kernel_rfl
theorem Af0:(((Jc.drop 2).take 2).all fun p=>qaR (Al Tryz.prog HH XK 3000 39 p.1 []) p.2)=true:=by kernel_rfl
theorem Afg:(((Jc.drop 4).take 2).all fun p=>qaR (Al Tryz.prog HH XK 3000 39 p.1 []) p.2)=true:=by kernel_rfl
theorem Afi:(((Jc.drop 6).take 2).all fun p=>qaR (Al Tryz.prog HH XK 3000 39 p.1 []) p.2)=true:=by kernel_rfl
theorem Ag6:(((Jc.drop 8).take 2).all fun p=>qaR (Al Tryz.prog HH XK 3000 39 p.1 []) p.2)=true:=by kernel_rfl
theorem Ad5:((Jc.drop 10).all fun p=>qaR (Al Tryz.prog HH XK 3000 39 p.1 []) p.2)=true:=rfl
theorem Ad0:((Jc.drop 8).all fun p=>qaR (Al Tryz.prog HH XK 3000 39 p.1 []) p.2)=true:=Bg 2 Ag6 Ad5
theorem Afb:((Jc.drop 6).all fun p=>qaR (Al Tryz.prog HH XK 3000 39 p.1 []) p.2)=true:=Bg 2 Afi Ad0
theorem Ag8:((Jc.drop 4).all fun p=>qaR (Al Tryz.prog HH XK 3000 39 p.1 []) p.2)=true:=Bg 2 Afg Afb
theorem Aec:((Jc.drop 2).all fun p=>qaR (Al Tryz.prog HH XK 3000 39 p.1 []) p.2)=true:=Bg 2 Af0 Ag8
theorem Aeh:((Jc.drop 0).all fun p=>qaR (Al Tryz.prog HH XK 3000 39 p.1 []) p.2)=true:=Bg 2 Aeq Aec
theorem Ao8:(Jc.all fun p=>qaR (Al Tryz.prog HH XK 3000 39 p.1 []) p.2)=true:=Aeh
end Go.Proofs.YtfabdppicogkmaaGreat
end
