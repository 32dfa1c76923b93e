/- Parts of the proofs: what they lean on. Conditions: none. -/
import Derived.Test.YtfabdppicogkmaaGreatGenSafeP4
section
namespace Go.Proofs.YtfabdppicogkmaaGreat
set_option linter.unusedSectionVars false
set_option linter.unusedVariables false
set_option maxRecDepth 100000
theorem Ao0:D7 Mb O4 1 1 rk1 ta1=true:=by decide +kernel
theorem Ako:D7 Mb O4 1 2 rk1 ta1=true:=by decide +kernel
theorem An4:D7 Mb O4 2 1 rk2 ta2=true:=by decide +kernel
theorem Al7:D7 Mb O4 2 2 rk2 ta2=true:=by decide +kernel
theorem Akn:D7 Mb O4 3 1 rk2 ta2=true:=by decide +kernel
theorem Al3:D7 Mb O4 3 2 rk2 ta2=true:=by decide +kernel
theorem Amj:D7 M6 O9 1 1 rk6 ta6=true:=by decide +kernel
theorem Anw:D7 M6 O9 1 2 rk6 ta6=true:=by decide +kernel
theorem Ane:D7 M6 O9 2 1 rk7 ta7=true:=by decide +kernel
theorem Amm:D7 M6 O9 2 2 rk7 ta7=true:=by decide +kernel
theorem Akz:D7 M6 O9 3 1 rk7 ta7=true:=by decide +kernel
theorem Am3:D7 M6 O9 3 2 rk7 ta7=true:=by decide +kernel
theorem Am0:D7 Oa Ps 1 1 rk8 ta8=true:=by decide +kernel
theorem Amr:D7 Oa Ps 1 2 rk8 ta8=true:=by decide +kernel
theorem Ano:D7 Oa Ps 2 1 rk9 ta9=true:=by decide +kernel
theorem Alm:D7 Oa Ps 2 2 rk9 ta9=true:=by decide +kernel
theorem Amv:D7 Oa Ps 3 1 rk9 ta9=true:=by decide +kernel
theorem Alf:D7 Oa Ps 3 2 rk9 ta9=true:=by decide +kernel
theorem Anl:D7 O3 Nw 1 1 A4n A5c=true:=by decide +kernel
theorem Amu:D7 O3 Nw 1 2 A4n A5c=true:=by decide +kernel
theorem An0:D7 O3 Nw 2 1 A4n A5c=true:=by decide +kernel
theorem Am6:D7 O3 Nw 2 2 A4n A5c=true:=by decide +kernel
theorem Anh:D7 O3 Nw 3 1 A4n A5c=true:=by decide +kernel
theorem Anb:D7 O3 Nw 3 2 A4n A5c=true:=by decide +kernel
theorem Aln:D7 O1 Nu 1 1 A4e A5e=true:=by decide +kernel
theorem Am8:D7 O1 Nu 1 2 A4e A5e=true:=by decide +kernel
theorem Al0:D7 O1 Nu 2 1 A4e A5e=true:=by decide +kernel
theorem An5:D7 O1 Nu 2 2 A4e A5e=true:=by decide +kernel
theorem Alt:D7 O1 Nu 3 1 A4e A5e=true:=by decide +kernel
theorem An9:D7 O1 Nu 3 2 A4e A5e=true:=by decide +kernel
end Go.Proofs.YtfabdppicogkmaaGreat
end
