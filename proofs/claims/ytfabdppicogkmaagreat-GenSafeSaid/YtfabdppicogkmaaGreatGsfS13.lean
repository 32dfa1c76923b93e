/- Parts of the proofs: what they lean on. Conditions: none. -/
import Derived.Test.YtfabdppicogkmaaGreatGsfS12
section
namespace Go.Proofs.YtfabdppicogkmaaGreat
open Go.RowKit
set_option linter.unusedVariables false
set_option maxRecDepth 100000
theorem Ae6:(((I6.drop 0).take 1).all fun p=>qaR (Al Tryz.prog HH XK 3000 38 p.1 []) p.2)=true:=by kernel_rfl
theorem Aft:(((I6.drop 1).take 1).all fun p=>qaR (Al Tryz.prog HH XK 3000 38 p.1 []) p.2)=true:=by kernel_rfl
theorem Ag5:(((I6.drop 2).take 1).all fun p=>qaR (Al Tryz.prog HH XK 3000 38 p.1 []) p.2)=true:=by kernel_rfl
theorem Adr:(((I6.drop 3).take 1).all fun p=>qaR (Al Tryz.prog HH XK 3000 38 p.1 []) p.2)=true:=by kernel_rfl
theorem Afl:(((I6.drop 4).take 1).all fun p=>qaR (Al Tryz.prog HH XK 3000 38 p.1 []) p.2)=true:=by kernel_rfl
theorem Agg:(((I6.drop 5).take 1).all fun p=>qaR (Al Tryz.prog HH XK 3000 38 p.1 []) p.2)=true:=by kernel_rfl
theorem Afv:((I6.drop 6).all fun p=>qaR (Al Tryz.prog HH XK 3000 38 p.1 []) p.2)=true:=rfl
theorem Adt:((I6.drop 5).all fun p=>qaR (Al Tryz.prog HH XK 3000 38 p.1 []) p.2)=true:=Bg 1 Agg Afv
theorem Agc:((I6.drop 4).all fun p=>qaR (Al Tryz.prog HH XK 3000 38 p.1 []) p.2)=true:=Bg 1 Afl Adt
theorem Ae5:((I6.drop 3).all fun p=>qaR (Al Tryz.prog HH XK 3000 38 p.1 []) p.2)=true:=Bg 1 Adr Agc
theorem Ae1:((I6.drop 2).all fun p=>qaR (Al Tryz.prog HH XK 3000 38 p.1 []) p.2)=true:=Bg 1 Ag5 Ae5
theorem Ae7:((I6.drop 1).all fun p=>qaR (Al Tryz.prog HH XK 3000 38 p.1 []) p.2)=true:=Bg 1 Aft Ae1
theorem Agd:((I6.drop 0).all fun p=>qaR (Al Tryz.prog HH XK 3000 38 p.1 []) p.2)=true:=Bg 1 Ae6 Ae7
theorem Alk:(I6.all fun p=>qaR (Al Tryz.prog HH XK 3000 38 p.1 []) p.2)=true:=Agd
theorem Ank:(((Vt.drop 0).take 7).all fun p=>qaR (Al Tryz.prog HH XK 3000 79 p.1 []) p.2)=true:=by kernel_rfl
theorem Alq:(((Vt.drop 7).take 7).all fun p=>qaR (Al Tryz.prog HH XK 3000 79 p.1 []) p.2)=true:=by kernel_rfl
theorem Ao5:(((Vt.drop 14).take 7).all fun p=>qaR (Al Tryz.prog HH XK 3000 79 p.1 []) p.2)=true:=by kernel_rfl
theorem Aoo:((Vt.drop 21).all fun p=>qaR (Al Tryz.prog HH XK 3000 79 p.1 []) p.2)=true:=rfl
theorem Aku:((Vt.drop 14).all fun p=>qaR (Al Tryz.prog HH XK 3000 79 p.1 []) p.2)=true:=Bg 7 Ao5 Aoo
theorem Anv:((Vt.drop 7).all fun p=>qaR (Al Tryz.prog HH XK 3000 79 p.1 []) p.2)=true:=Bg 7 Alq Aku
theorem Aky:((Vt.drop 0).all fun p=>qaR (Al Tryz.prog HH XK 3000 79 p.1 []) p.2)=true:=Bg 7 Ank Anv
theorem As1:(Vt.all fun p=>qaR (Al Tryz.prog HH XK 3000 79 p.1 []) p.2)=true:=Aky
end Go.Proofs.YtfabdppicogkmaaGreat
end
