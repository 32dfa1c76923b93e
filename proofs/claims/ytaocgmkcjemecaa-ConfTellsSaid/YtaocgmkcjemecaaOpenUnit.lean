/- Units and configurations that came in. Parts of the proofs of the laws of layers 6 to 22. Conditions: none. -/
import Derived.Test.YtaocgmkcjemecaaProg
import Derived.Test.YtaocgmkcjemecaaUnit
namespace Go.Proofs.Ytaocgmkcjemecaa
set_option linter.unusedVariables false
set_option linter.unusedSimpArgs false

theorem opens_rI : Opens Try.prog 3 rI := opens_int Try.underlying3 (by kernel_rfl)
theorem opens_ints : Opens Try.prog 22 rInts := opens_slice Try.underlying22 (by kernel_rfl) opens_rI (by decide)
theorem opens_op : Opens Try.prog 134 rOp := opens_map _ (opens_struct Try.underlying134 (by kernel_rfl) (fields_cons rfl opens_rI (fields_cons rfl opens_rI (fields_one rfl opens_rI) (by decide)) (by decide)))
theorem opens_ops : Opens Try.prog 79 rOps := opens_slice Try.underlying79 (by kernel_rfl) opens_op (by decide)
theorem opens_bool' : Opens Try.prog 4 rBool := opens_bool Try.underlying4 (by kernel_rfl)
theorem opens_instr : Opens Try.prog 81 rInstr := opens_map _ (opens_struct Try.underlying81 (by kernel_rfl)
  (fields_cons rfl opens_rI (fields_cons rfl opens_rI (fields_cons rfl opens_rI (fields_cons rfl opens_ops (fields_cons rfl opens_ops (fields_cons rfl opens_bool' (fields_one rfl opens_rI) (by decide)) (by decide)) (by decide)) (by decide)) (by decide)) (by decide)))
theorem opens_instrs : Opens Try.prog 67 rInstrs := opens_slice Try.underlying67 (by kernel_rfl) opens_instr (by decide)
theorem opens_code : Opens Try.prog 23 rCode := opens_slice Try.underlying23 (by kernel_rfl) opens_instrs (by decide)
theorem opens_unit : Opens Try.prog 25 rUnit := opens_map _ (opens_struct Try.underlying25 (by kernel_rfl)
  (fields_cons rfl opens_rI (fields_cons rfl opens_ints (fields_cons rfl opens_ints (fields_one rfl opens_code) (by decide)) (by decide)) (by decide)))
theorem opens_entry : Opens Try.prog 42 rEntry := opens_map _ (opens_struct Try.underlying42 (by kernel_rfl) (fields_cons rfl opens_rI (fields_one rfl opens_rI) (by decide)))
theorem opens_entries : Opens Try.prog 40 rEntries := opens_slice Try.underlying40 (by kernel_rfl) opens_entry (by decide)
theorem opens_bufs : Opens Try.prog 38 rBufs := opens_slice Try.underlying38 (by kernel_rfl) opens_entries (by decide)
theorem opens_rows : Opens Try.prog 55 rRows := opens_slice Try.underlying55 (by kernel_rfl) opens_ints (by decide)
theorem opens_conf : Opens Try.prog 57 rConf := opens_map _ (opens_struct Try.underlying57 (by kernel_rfl) (fields_cons rfl opens_ints (fields_cons rfl opens_rows (fields_cons rfl opens_ints (fields_one rfl opens_bufs) (by decide)) (by decide)) (by decide)))

end Go.Proofs.Ytaocgmkcjemecaa
