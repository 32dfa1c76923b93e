/- Parts of the proofs: what they lean on. Conditions: none. -/
import Derived.Test.YtfabdppicogkmaaGreatGenSafeP4
section
namespace Go.Proofs.YtfabdppicogkmaaGreat
set_option linter.unusedVariables false
set_option maxRecDepth 100000
theorem Ao6:D7 Mm O4 1 1 rk1 ta1=true:=by decide +kernel
theorem Am2:D7 Mm O4 1 2 rk1 ta1=true:=by decide +kernel
theorem Aoi:D7 Mm O4 2 1 rk2 ta2=true:=by decide +kernel
theorem Anl:D7 Mm O4 2 2 rk2 ta2=true:=by decide +kernel
theorem Am5:D7 Mm O4 3 1 rk2 ta2=true:=by decide +kernel
theorem Anf:D7 Mm O4 3 2 rk2 ta2=true:=by decide +kernel
theorem Amp:D7 Mj O5 1 1 rk6 ta6=true:=by decide +kernel
theorem Amo:D7 Mj O5 1 2 rk6 ta6=true:=by decide +kernel
theorem Anj:D7 Mj O5 2 1 rk7 ta7=true:=by decide +kernel
theorem Anw:D7 Mj O5 2 2 rk7 ta7=true:=by decide +kernel
theorem Anu:D7 Mj O5 3 1 rk7 ta7=true:=by decide +kernel
theorem Aol:D7 Mj O5 3 2 rk7 ta7=true:=by decide +kernel
theorem Al4:D7 Oc Ps 1 1 rk8 ta8=true:=by decide +kernel
theorem Ald:D7 Oc Ps 1 2 rk8 ta8=true:=by decide +kernel
theorem Ao3:D7 Oc Ps 2 1 rk9 ta9=true:=by decide +kernel
theorem Alf:D7 Oc Ps 2 2 rk9 ta9=true:=by decide +kernel
theorem Aoj:D7 Oc Ps 3 1 rk9 ta9=true:=by decide +kernel
theorem Akp:D7 Oc Ps 3 2 rk9 ta9=true:=by decide +kernel
theorem Am7:D7 Nt Nw 1 1 A5k A4i=true:=by decide +kernel
theorem Anm:D7 Nt Nw 1 2 A5k A4i=true:=by decide +kernel
theorem Amr:D7 Nt Nw 2 1 A5k A4i=true:=by decide +kernel
theorem Alo:D7 Nt Nw 2 2 A5k A4i=true:=by decide +kernel
theorem An5:D7 Nt Nw 3 1 A5k A4i=true:=by decide +kernel
theorem Ao2:D7 Nt Nw 3 2 A5k A4i=true:=by decide +kernel
theorem Aod:D7 Ny O8 1 1 A50 A4d=true:=by decide +kernel
theorem Aon:D7 Ny O8 1 2 A50 A4d=true:=by decide +kernel
theorem Aoh:D7 Ny O8 2 1 A50 A4d=true:=by decide +kernel
theorem Aom:D7 Ny O8 2 2 A50 A4d=true:=by decide +kernel
theorem Al7:D7 Ny O8 3 1 A50 A4d=true:=by decide +kernel
theorem Al2:D7 Ny O8 3 2 A50 A4d=true:=by decide +kernel
end Go.Proofs.YtfabdppicogkmaaGreat
end
