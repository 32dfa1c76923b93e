/- Parts of the proofs: what they lean on. Conditions: none. -/
import Derived.Test.YtfabdppicogkmaaGreatGsfS15
section
namespace Go.Proofs.YtfabdppicogkmaaGreat
open Go.RowKit
set_option linter.unusedVariables false
set_option maxRecDepth 100000
theorem Agx:(((Hk.drop 0).take 1).all fun p=>qaR (Ap Tryz.prog HH XK 3000 74 p.1 []) p.2)=true:=by kernel_rfl
theorem Ai7:(((Hk.drop 1).take 1).all fun p=>qaR (Ap Tryz.prog HH XK 3000 74 p.1 []) p.2)=true:=by kernel_rfl
theorem Agw:(((Hk.drop 2).take 1).all fun p=>qaR (Ap Tryz.prog HH XK 3000 74 p.1 []) p.2)=true:=by kernel_rfl
theorem Aik:(((Hk.drop 3).take 1).all fun p=>qaR (Ap Tryz.prog HH XK 3000 74 p.1 []) p.2)=true:=by kernel_rfl
theorem Aij:(((Hk.drop 4).take 1).all fun p=>qaR (Ap Tryz.prog HH XK 3000 74 p.1 []) p.2)=true:=by kernel_rfl
theorem Ai3:(((Hk.drop 5).take 1).all fun p=>qaR (Ap Tryz.prog HH XK 3000 74 p.1 []) p.2)=true:=by kernel_rfl
theorem Aix:(((Hk.drop 6).take 1).all fun p=>qaR (Ap Tryz.prog HH XK 3000 74 p.1 []) p.2)=true:=by kernel_rfl
theorem Aju:(((Hk.drop 7).take 1).all fun p=>qaR (Ap Tryz.prog HH XK 3000 74 p.1 []) p.2)=true:=by kernel_rfl
theorem Agr:(((Hk.drop 8).take 1).all fun p=>qaR (Ap Tryz.prog HH XK 3000 74 p.1 []) p.2)=true:=by kernel_rfl
theorem Ajq:((Hk.drop 9).all fun p=>qaR (Ap Tryz.prog HH XK 3000 74 p.1 []) p.2)=true:=rfl
theorem Ahk:((Hk.drop 8).all fun p=>qaR (Ap Tryz.prog HH XK 3000 74 p.1 []) p.2)=true:=Bk 1 Agr Ajq
theorem Ah0:((Hk.drop 7).all fun p=>qaR (Ap Tryz.prog HH XK 3000 74 p.1 []) p.2)=true:=Bk 1 Aju Ahk
theorem Ahm:((Hk.drop 6).all fun p=>qaR (Ap Tryz.prog HH XK 3000 74 p.1 []) p.2)=true:=Bk 1 Aix Ah0
theorem Aji:((Hk.drop 5).all fun p=>qaR (Ap Tryz.prog HH XK 3000 74 p.1 []) p.2)=true:=Bk 1 Ai3 Ahm
theorem Ajn:((Hk.drop 4).all fun p=>qaR (Ap Tryz.prog HH XK 3000 74 p.1 []) p.2)=true:=Bk 1 Aij Aji
theorem Aiw:((Hk.drop 3).all fun p=>qaR (Ap Tryz.prog HH XK 3000 74 p.1 []) p.2)=true:=Bk 1 Aik Ajn
theorem Ai4:((Hk.drop 2).all fun p=>qaR (Ap Tryz.prog HH XK 3000 74 p.1 []) p.2)=true:=Bk 1 Agw Aiw
theorem Ai8:((Hk.drop 1).all fun p=>qaR (Ap Tryz.prog HH XK 3000 74 p.1 []) p.2)=true:=Bk 1 Ai7 Ai4
theorem Ajo:((Hk.drop 0).all fun p=>qaR (Ap Tryz.prog HH XK 3000 74 p.1 []) p.2)=true:=Bk 1 Agx Ai8
theorem Apt:(Hk.all fun p=>qaR (Ap Tryz.prog HH XK 3000 74 p.1 []) p.2)=true:=Ajo
end Go.Proofs.YtfabdppicogkmaaGreat
end
