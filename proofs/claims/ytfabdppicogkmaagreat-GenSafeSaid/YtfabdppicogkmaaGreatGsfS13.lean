/- Parts of the proofs: what they lean on. Conditions: none. -/
import Derived.Test.YtfabdppicogkmaaGreatGsfS12
section
namespace Go.Proofs.YtfabdppicogkmaaGreat
open Go.RowKit
set_option linter.unusedVariables false
set_option maxRecDepth 100000
theorem Aez:(((I5.drop 0).take 1).all fun p=>qaR (Ap Tryz.prog HH XK 3000 38 p.1 []) p.2)=true:=by kernel_rfl
theorem Aek:(((I5.drop 1).take 1).all fun p=>qaR (Ap Tryz.prog HH XK 3000 38 p.1 []) p.2)=true:=by kernel_rfl
theorem Ag6:(((I5.drop 2).take 1).all fun p=>qaR (Ap Tryz.prog HH XK 3000 38 p.1 []) p.2)=true:=by kernel_rfl
theorem Aey:(((I5.drop 3).take 1).all fun p=>qaR (Ap Tryz.prog HH XK 3000 38 p.1 []) p.2)=true:=by kernel_rfl
theorem Aep:(((I5.drop 4).take 1).all fun p=>qaR (Ap Tryz.prog HH XK 3000 38 p.1 []) p.2)=true:=by kernel_rfl
theorem Aga:(((I5.drop 5).take 1).all fun p=>qaR (Ap Tryz.prog HH XK 3000 38 p.1 []) p.2)=true:=by kernel_rfl
theorem Acq:((I5.drop 6).all fun p=>qaR (Ap Tryz.prog HH XK 3000 38 p.1 []) p.2)=true:=rfl
theorem Aef:((I5.drop 5).all fun p=>qaR (Ap Tryz.prog HH XK 3000 38 p.1 []) p.2)=true:=Bk 1 Aga Acq
theorem Afd:((I5.drop 4).all fun p=>qaR (Ap Tryz.prog HH XK 3000 38 p.1 []) p.2)=true:=Bk 1 Aep Aef
theorem Adc:((I5.drop 3).all fun p=>qaR (Ap Tryz.prog HH XK 3000 38 p.1 []) p.2)=true:=Bk 1 Aey Afd
theorem Af0:((I5.drop 2).all fun p=>qaR (Ap Tryz.prog HH XK 3000 38 p.1 []) p.2)=true:=Bk 1 Ag6 Adc
theorem Ae7:((I5.drop 1).all fun p=>qaR (Ap Tryz.prog HH XK 3000 38 p.1 []) p.2)=true:=Bk 1 Aek Af0
theorem Adr:((I5.drop 0).all fun p=>qaR (Ap Tryz.prog HH XK 3000 38 p.1 []) p.2)=true:=Bk 1 Aez Ae7
theorem Ao5:(I5.all fun p=>qaR (Ap Tryz.prog HH XK 3000 38 p.1 []) p.2)=true:=Adr
theorem Akg:(((Wl.drop 0).take 7).all fun p=>qaR (Ap Tryz.prog HH XK 3000 79 p.1 []) p.2)=true:=by kernel_rfl
theorem Akx:(((Wl.drop 7).take 7).all fun p=>qaR (Ap Tryz.prog HH XK 3000 79 p.1 []) p.2)=true:=by kernel_rfl
theorem Anx:(((Wl.drop 14).take 7).all fun p=>qaR (Ap Tryz.prog HH XK 3000 79 p.1 []) p.2)=true:=by kernel_rfl
theorem Ant:((Wl.drop 21).all fun p=>qaR (Ap Tryz.prog HH XK 3000 79 p.1 []) p.2)=true:=rfl
theorem Ao3:((Wl.drop 14).all fun p=>qaR (Ap Tryz.prog HH XK 3000 79 p.1 []) p.2)=true:=Bk 7 Anx Ant
theorem Ann:((Wl.drop 7).all fun p=>qaR (Ap Tryz.prog HH XK 3000 79 p.1 []) p.2)=true:=Bk 7 Akx Ao3
theorem Amg:((Wl.drop 0).all fun p=>qaR (Ap Tryz.prog HH XK 3000 79 p.1 []) p.2)=true:=Bk 7 Akg Ann
theorem Arf:(Wl.all fun p=>qaR (Ap Tryz.prog HH XK 3000 79 p.1 []) p.2)=true:=Amg
end Go.Proofs.YtfabdppicogkmaaGreat
end
