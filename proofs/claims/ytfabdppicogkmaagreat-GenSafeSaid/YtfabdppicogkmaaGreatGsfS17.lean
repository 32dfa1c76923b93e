/- Parts of the proofs: what they lean on. Conditions: none. -/
import Derived.Test.YtfabdppicogkmaaGreatGsfS16
section
namespace Go.Proofs.YtfabdppicogkmaaGreat
open Go.RowKit
set_option linter.unusedVariables false
set_option maxRecDepth 100000
theorem Ajy:(((Jk.drop 0).take 3).all fun p=>qaR (Al Tryz.prog HH XK 3000 117 p.1 []) p.2)=true:=by kernel_rfl
theorem Ahp:(((Jk.drop 3).take 3).all fun p=>qaR (Al Tryz.prog HH XK 3000 117 p.1 []) p.2)=true:=by kernel_rfl
theorem Ajl:(((Jk.drop 6).take 3).all fun p=>qaR (Al Tryz.prog HH XK 3000 117 p.1 []) p.2)=true:=by kernel_rfl
theorem Ajt:(((Jk.drop 9).take 3).all fun p=>qaR (Al Tryz.prog HH XK 3000 117 p.1 []) p.2)=true:=by kernel_rfl
theorem Ajh:(((Jk.drop 12).take 3).all fun p=>qaR (Al Tryz.prog HH XK 3000 117 p.1 []) p.2)=true:=by kernel_rfl
theorem Ahx:(((Jk.drop 15).take 3).all fun p=>qaR (Al Tryz.prog HH XK 3000 117 p.1 []) p.2)=true:=by kernel_rfl
theorem Aib:(((Jk.drop 18).take 3).all fun p=>qaR (Al Tryz.prog HH XK 3000 117 p.1 []) p.2)=true:=by kernel_rfl
theorem Ah3:((Jk.drop 21).all fun p=>qaR (Al Tryz.prog HH XK 3000 117 p.1 []) p.2)=true:=rfl
theorem Aiu:((Jk.drop 18).all fun p=>qaR (Al Tryz.prog HH XK 3000 117 p.1 []) p.2)=true:=Bg 3 Aib Ah3
theorem Agz:((Jk.drop 15).all fun p=>qaR (Al Tryz.prog HH XK 3000 117 p.1 []) p.2)=true:=Bg 3 Ahx Aiu
theorem Aho:((Jk.drop 12).all fun p=>qaR (Al Tryz.prog HH XK 3000 117 p.1 []) p.2)=true:=Bg 3 Ajh Agz
theorem Aha:((Jk.drop 9).all fun p=>qaR (Al Tryz.prog HH XK 3000 117 p.1 []) p.2)=true:=Bg 3 Ajt Aho
theorem Ah2:((Jk.drop 6).all fun p=>qaR (Al Tryz.prog HH XK 3000 117 p.1 []) p.2)=true:=Bg 3 Ajl Aha
theorem Ak0:((Jk.drop 3).all fun p=>qaR (Al Tryz.prog HH XK 3000 117 p.1 []) p.2)=true:=Bg 3 Ahp Ah2
theorem Ags:((Jk.drop 0).all fun p=>qaR (Al Tryz.prog HH XK 3000 117 p.1 []) p.2)=true:=Bg 3 Ajy Ak0
theorem Aph:(Jk.all fun p=>qaR (Al Tryz.prog HH XK 3000 117 p.1 []) p.2)=true:=Ags
theorem Aq2:(((stT.drop 0).take 1).all fun p=>qaR (Al Tryz.prog HH X0 3000 72 p.1 []) p.2)=true:=by kernel_rfl
theorem Ar3:(((stT.drop 1).take 1).all fun p=>qaR (Al Tryz.prog HH X0 3000 72 p.1 []) p.2)=true:=by kernel_rfl
theorem Aqe:(((stT.drop 2).take 1).all fun p=>qaR (Al Tryz.prog HH X0 3000 72 p.1 []) p.2)=true:=by kernel_rfl
theorem Aqa:(((stT.drop 3).take 1).all fun p=>qaR (Al Tryz.prog HH X0 3000 72 p.1 []) p.2)=true:=by kernel_rfl
theorem Aqh:((stT.drop 4).all fun p=>qaR (Al Tryz.prog HH X0 3000 72 p.1 []) p.2)=true:=rfl
theorem Aqu:((stT.drop 3).all fun p=>qaR (Al Tryz.prog HH X0 3000 72 p.1 []) p.2)=true:=Bg 1 Aqa Aqh
theorem Apd:((stT.drop 2).all fun p=>qaR (Al Tryz.prog HH X0 3000 72 p.1 []) p.2)=true:=Bg 1 Aqe Aqu
theorem Aqd:((stT.drop 1).all fun p=>qaR (Al Tryz.prog HH X0 3000 72 p.1 []) p.2)=true:=Bg 1 Ar3 Apd
theorem Apq:((stT.drop 0).all fun p=>qaR (Al Tryz.prog HH X0 3000 72 p.1 []) p.2)=true:=Bg 1 Aq2 Aqd
theorem Ask:(stT.all fun p=>qaR (Al Tryz.prog HH X0 3000 72 p.1 []) p.2)=true:=Apq
end Go.Proofs.YtfabdppicogkmaaGreat
end
