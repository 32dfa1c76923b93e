/- Parts of the proofs: what they lean on. Conditions: none. -/
import Derived.Test.YtfabdppicogkmaaGreatGsfS17
section
namespace Go.Proofs.YtfabdppicogkmaaGreat
open Go.RowKit
set_option linter.unusedVariables false
set_option maxRecDepth 100000
theorem Ak4:(((L7.drop 0).take 1).all fun p=>qaR (Al Tryz.prog HH XK 3000 45 p.1 []) p.2)=true:=by kernel_rfl
theorem Ah9:(((L7.drop 1).take 1).all fun p=>qaR (Al Tryz.prog HH XK 3000 45 p.1 []) p.2)=true:=by kernel_rfl
theorem Ahc:(((L7.drop 2).take 1).all fun p=>qaR (Al Tryz.prog HH XK 3000 45 p.1 []) p.2)=true:=by kernel_rfl
theorem Ait:(((L7.drop 3).take 1).all fun p=>qaR (Al Tryz.prog HH XK 3000 45 p.1 []) p.2)=true:=by kernel_rfl
theorem Aja:(((L7.drop 4).take 1).all fun p=>qaR (Al Tryz.prog HH XK 3000 45 p.1 []) p.2)=true:=by kernel_rfl
theorem Agx:(((L7.drop 5).take 1).all fun p=>qaR (Al Tryz.prog HH XK 3000 45 p.1 []) p.2)=true:=by kernel_rfl
theorem Ago:((L7.drop 6).all fun p=>qaR (Al Tryz.prog HH XK 3000 45 p.1 []) p.2)=true:=rfl
theorem Ahk:((L7.drop 5).all fun p=>qaR (Al Tryz.prog HH XK 3000 45 p.1 []) p.2)=true:=Bg 1 Agx Ago
theorem Akj:((L7.drop 4).all fun p=>qaR (Al Tryz.prog HH XK 3000 45 p.1 []) p.2)=true:=Bg 1 Aja Ahk
theorem Aht:((L7.drop 3).all fun p=>qaR (Al Tryz.prog HH XK 3000 45 p.1 []) p.2)=true:=Bg 1 Ait Akj
theorem Aig:((L7.drop 2).all fun p=>qaR (Al Tryz.prog HH XK 3000 45 p.1 []) p.2)=true:=Bg 1 Ahc Aht
theorem Ain:((L7.drop 1).all fun p=>qaR (Al Tryz.prog HH XK 3000 45 p.1 []) p.2)=true:=Bg 1 Ah9 Aig
theorem Aiw:((L7.drop 0).all fun p=>qaR (Al Tryz.prog HH XK 3000 45 p.1 []) p.2)=true:=Bg 1 Ak4 Ain
theorem Apb:(L7.all fun p=>qaR (Al Tryz.prog HH XK 3000 45 p.1 []) p.2)=true:=Aiw
theorem Aqk:(((clT.drop 0).take 2).all fun p=>qaR (Al Tryz.prog HH XK 3000 73 p.1 []) p.2)=true:=by kernel_rfl
theorem Aq1:(((clT.drop 2).take 2).all fun p=>qaR (Al Tryz.prog HH XK 3000 73 p.1 []) p.2)=true:=by kernel_rfl
theorem Ap8:(((clT.drop 4).take 2).all fun p=>qaR (Al Tryz.prog HH XK 3000 73 p.1 []) p.2)=true:=by kernel_rfl
theorem Apw:(((clT.drop 6).take 2).all fun p=>qaR (Al Tryz.prog HH XK 3000 73 p.1 []) p.2)=true:=by kernel_rfl
theorem Aqc:(((clT.drop 8).take 2).all fun p=>qaR (Al Tryz.prog HH XK 3000 73 p.1 []) p.2)=true:=by kernel_rfl
theorem Aqq:((clT.drop 10).all fun p=>qaR (Al Tryz.prog HH XK 3000 73 p.1 []) p.2)=true:=rfl
theorem Aq5:((clT.drop 8).all fun p=>qaR (Al Tryz.prog HH XK 3000 73 p.1 []) p.2)=true:=Bg 2 Aqc Aqq
theorem Apt:((clT.drop 6).all fun p=>qaR (Al Tryz.prog HH XK 3000 73 p.1 []) p.2)=true:=Bg 2 Apw Aq5
theorem Apg:((clT.drop 4).all fun p=>qaR (Al Tryz.prog HH XK 3000 73 p.1 []) p.2)=true:=Bg 2 Ap8 Apt
theorem Aqp:((clT.drop 2).all fun p=>qaR (Al Tryz.prog HH XK 3000 73 p.1 []) p.2)=true:=Bg 2 Aq1 Apg
theorem Apy:((clT.drop 0).all fun p=>qaR (Al Tryz.prog HH XK 3000 73 p.1 []) p.2)=true:=Bg 2 Aqk Aqp
theorem Asf:(clT.all fun p=>qaR (Al Tryz.prog HH XK 3000 73 p.1 []) p.2)=true:=Apy
end Go.Proofs.YtfabdppicogkmaaGreat
end
