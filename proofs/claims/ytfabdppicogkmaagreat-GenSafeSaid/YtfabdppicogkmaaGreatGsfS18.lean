/- Parts of the proofs: what they lean on. Conditions: none. -/
import Derived.Test.YtfabdppicogkmaaGreatGsfS17
section
namespace Go.Proofs.YtfabdppicogkmaaGreat
open Go.RowKit
set_option linter.unusedVariables false
set_option maxRecDepth 100000
theorem Ajp:(((L0.drop 0).take 1).all fun p=>qaR (Ap Tryz.prog HH XK 3000 45 p.1 []) p.2)=true:=by kernel_rfl
theorem Ak4:(((L0.drop 1).take 1).all fun p=>qaR (Ap Tryz.prog HH XK 3000 45 p.1 []) p.2)=true:=by kernel_rfl
theorem Aje:(((L0.drop 2).take 1).all fun p=>qaR (Ap Tryz.prog HH XK 3000 45 p.1 []) p.2)=true:=by kernel_rfl
theorem Ajy:(((L0.drop 3).take 1).all fun p=>qaR (Ap Tryz.prog HH XK 3000 45 p.1 []) p.2)=true:=by kernel_rfl
theorem Ahz:(((L0.drop 4).take 1).all fun p=>qaR (Ap Tryz.prog HH XK 3000 45 p.1 []) p.2)=true:=by kernel_rfl
theorem Aip:(((L0.drop 5).take 1).all fun p=>qaR (Ap Tryz.prog HH XK 3000 45 p.1 []) p.2)=true:=by kernel_rfl
theorem Ak5:((L0.drop 6).all fun p=>qaR (Ap Tryz.prog HH XK 3000 45 p.1 []) p.2)=true:=rfl
theorem Aj9:((L0.drop 5).all fun p=>qaR (Ap Tryz.prog HH XK 3000 45 p.1 []) p.2)=true:=Bk 1 Aip Ak5
theorem Aj1:((L0.drop 4).all fun p=>qaR (Ap Tryz.prog HH XK 3000 45 p.1 []) p.2)=true:=Bk 1 Ahz Aj9
theorem Ai2:((L0.drop 3).all fun p=>qaR (Ap Tryz.prog HH XK 3000 45 p.1 []) p.2)=true:=Bk 1 Ajy Aj1
theorem Aj4:((L0.drop 2).all fun p=>qaR (Ap Tryz.prog HH XK 3000 45 p.1 []) p.2)=true:=Bk 1 Aje Ai2
theorem Ahw:((L0.drop 1).all fun p=>qaR (Ap Tryz.prog HH XK 3000 45 p.1 []) p.2)=true:=Bk 1 Ak4 Aj4
theorem Agu:((L0.drop 0).all fun p=>qaR (Ap Tryz.prog HH XK 3000 45 p.1 []) p.2)=true:=Bk 1 Ajp Ahw
theorem Aqj:(L0.all fun p=>qaR (Ap Tryz.prog HH XK 3000 45 p.1 []) p.2)=true:=Agu
theorem Aoq:(((clT.drop 0).take 2).all fun p=>qaR (Ap Tryz.prog HH XK 3000 73 p.1 []) p.2)=true:=by kernel_rfl
theorem Apo:(((clT.drop 2).take 2).all fun p=>qaR (Ap Tryz.prog HH XK 3000 73 p.1 []) p.2)=true:=by kernel_rfl
theorem Ap3:(((clT.drop 4).take 2).all fun p=>qaR (Ap Tryz.prog HH XK 3000 73 p.1 []) p.2)=true:=by kernel_rfl
theorem Aop:(((clT.drop 6).take 2).all fun p=>qaR (Ap Tryz.prog HH XK 3000 73 p.1 []) p.2)=true:=by kernel_rfl
theorem Apd:(((clT.drop 8).take 2).all fun p=>qaR (Ap Tryz.prog HH XK 3000 73 p.1 []) p.2)=true:=by kernel_rfl
theorem Ap2:((clT.drop 10).all fun p=>qaR (Ap Tryz.prog HH XK 3000 73 p.1 []) p.2)=true:=rfl
theorem Apb:((clT.drop 8).all fun p=>qaR (Ap Tryz.prog HH XK 3000 73 p.1 []) p.2)=true:=Bk 2 Apd Ap2
theorem Apa:((clT.drop 6).all fun p=>qaR (Ap Tryz.prog HH XK 3000 73 p.1 []) p.2)=true:=Bk 2 Aop Apb
theorem Ap6:((clT.drop 4).all fun p=>qaR (Ap Tryz.prog HH XK 3000 73 p.1 []) p.2)=true:=Bk 2 Ap3 Apa
theorem Aq7:((clT.drop 2).all fun p=>qaR (Ap Tryz.prog HH XK 3000 73 p.1 []) p.2)=true:=Bk 2 Apo Ap6
theorem Aph:((clT.drop 0).all fun p=>qaR (Ap Tryz.prog HH XK 3000 73 p.1 []) p.2)=true:=Bk 2 Aoq Aq7
theorem Arq:(clT.all fun p=>qaR (Ap Tryz.prog HH XK 3000 73 p.1 []) p.2)=true:=Aph
end Go.Proofs.YtfabdppicogkmaaGreat
end
