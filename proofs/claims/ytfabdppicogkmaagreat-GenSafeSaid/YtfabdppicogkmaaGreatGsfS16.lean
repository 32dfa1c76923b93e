/- Parts of the proofs: what they lean on. Conditions: none. -/
import Derived.Test.YtfabdppicogkmaaGreatGsfS15
section
namespace Go.Proofs.YtfabdppicogkmaaGreat
open Go.RowKit
set_option linter.unusedVariables false
set_option maxRecDepth 100000
theorem Ak7:(((Hi.drop 0).take 1).all fun p=>qaR (Al Tryz.prog HH XK 3000 74 p.1 []) p.2)=true:=by kernel_rfl
theorem Ahd:(((Hi.drop 1).take 1).all fun p=>qaR (Al Tryz.prog HH XK 3000 74 p.1 []) p.2)=true:=by kernel_rfl
theorem Ajs:(((Hi.drop 2).take 1).all fun p=>qaR (Al Tryz.prog HH XK 3000 74 p.1 []) p.2)=true:=by kernel_rfl
theorem Ahr:(((Hi.drop 3).take 1).all fun p=>qaR (Al Tryz.prog HH XK 3000 74 p.1 []) p.2)=true:=by kernel_rfl
theorem Ajc:(((Hi.drop 4).take 1).all fun p=>qaR (Al Tryz.prog HH XK 3000 74 p.1 []) p.2)=true:=by kernel_rfl
theorem Ahi:(((Hi.drop 5).take 1).all fun p=>qaR (Al Tryz.prog HH XK 3000 74 p.1 []) p.2)=true:=by kernel_rfl
theorem Ai4:(((Hi.drop 6).take 1).all fun p=>qaR (Al Tryz.prog HH XK 3000 74 p.1 []) p.2)=true:=by kernel_rfl
theorem Ai2:(((Hi.drop 7).take 1).all fun p=>qaR (Al Tryz.prog HH XK 3000 74 p.1 []) p.2)=true:=by kernel_rfl
theorem Ai7:(((Hi.drop 8).take 1).all fun p=>qaR (Al Tryz.prog HH XK 3000 74 p.1 []) p.2)=true:=by kernel_rfl
theorem Aj0:((Hi.drop 9).all fun p=>qaR (Al Tryz.prog HH XK 3000 74 p.1 []) p.2)=true:=rfl
theorem Aj9:((Hi.drop 8).all fun p=>qaR (Al Tryz.prog HH XK 3000 74 p.1 []) p.2)=true:=Bg 1 Ai7 Aj0
theorem Aj8:((Hi.drop 7).all fun p=>qaR (Al Tryz.prog HH XK 3000 74 p.1 []) p.2)=true:=Bg 1 Ai2 Aj9
theorem Ai5:((Hi.drop 6).all fun p=>qaR (Al Tryz.prog HH XK 3000 74 p.1 []) p.2)=true:=Bg 1 Ai4 Aj8
theorem Ake:((Hi.drop 5).all fun p=>qaR (Al Tryz.prog HH XK 3000 74 p.1 []) p.2)=true:=Bg 1 Ahi Ai5
theorem Ajz:((Hi.drop 4).all fun p=>qaR (Al Tryz.prog HH XK 3000 74 p.1 []) p.2)=true:=Bg 1 Ajc Ake
theorem Ajo:((Hi.drop 3).all fun p=>qaR (Al Tryz.prog HH XK 3000 74 p.1 []) p.2)=true:=Bg 1 Ahr Ajz
theorem Agy:((Hi.drop 2).all fun p=>qaR (Al Tryz.prog HH XK 3000 74 p.1 []) p.2)=true:=Bg 1 Ajs Ajo
theorem Ajr:((Hi.drop 1).all fun p=>qaR (Al Tryz.prog HH XK 3000 74 p.1 []) p.2)=true:=Bg 1 Ahd Agy
theorem Ak6:((Hi.drop 0).all fun p=>qaR (Al Tryz.prog HH XK 3000 74 p.1 []) p.2)=true:=Bg 1 Ak7 Ajr
theorem Aqo:(Hi.all fun p=>qaR (Al Tryz.prog HH XK 3000 74 p.1 []) p.2)=true:=Ak6
end Go.Proofs.YtfabdppicogkmaaGreat
end
