/- A world is loaded just if its program is right and there is room for its globals, else the checker's error or ErrFull is told (the law MachineLoads, whatever the input). Conditions: none. This file: part O. -/
import Derived.Test.YtgghlkikgebipaaGreatRows
import Derived.JoinedOf
import Derived.KernelRfl
set_option linter.all false

section
namespace Go.Proofs.YtgghlkikgebipaaGreat
theorem loads_closed : joinedFacts Tryz.pinned.checked.prog 4 Tryz.f4 Rows.machineLoadsSpec Rows.machineLoadsRow = true := by kernel_rfl
end Go.Proofs.YtgghlkikgebipaaGreat
end
