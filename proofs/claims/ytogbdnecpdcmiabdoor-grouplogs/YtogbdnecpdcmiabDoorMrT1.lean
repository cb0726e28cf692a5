/- Trees of the search for three primes. -/
import Derived.Test.YtogbdnecpdcmiabDoorMrE
/- Trees, made by a program (genT.py). -/
set_option maxRecDepth 100000
namespace Go.Proofs.YtogbdnecpdcmiabDoor.Mr
theorem tr3_1 : treeB 3 7 1048576 5 sp3 sg3 ze3 [true, true, true, true, false] = true := by decide +kernel
theorem tr3_9 : treeB 3 7 1048576 5 sp3 sg3 ze3 [true, false, true, true, false] = true := by decide +kernel
theorem tr3_17 : treeB 3 7 1048576 5 sp3 sg3 ze3 [false, true, true, true, false] = true := by decide +kernel
theorem tr3_25 : treeB 3 7 1048576 5 sp3 sg3 ze3 [false, false, true, true, false] = true := by decide +kernel
theorem tr7_1 : treeB 7 7 1048576 5 sp7 sg7 ze7 [true, true, true, true, false] = true := by decide +kernel
theorem tr7_9 : treeB 7 7 1048576 5 sp7 sg7 ze7 [true, false, true, true, false] = true := by decide +kernel
theorem tr7_17 : treeB 7 7 1048576 5 sp7 sg7 ze7 [false, true, true, true, false] = true := by decide +kernel
theorem tr7_25 : treeB 7 7 1048576 5 sp7 sg7 ze7 [false, false, true, true, false] = true := by decide +kernel
theorem tr5_1 : treeB 5 7 1048576 5 sp5 sg5 ze5 [true, true, true, true, false] = true := by decide +kernel
theorem tr5_9 : treeB 5 7 1048576 5 sp5 sg5 ze5 [true, false, true, true, false] = true := by decide +kernel
theorem tr5_17 : treeB 5 7 1048576 5 sp5 sg5 ze5 [false, true, true, true, false] = true := by decide +kernel
theorem tr5_25 : treeB 5 7 1048576 5 sp5 sg5 ze5 [false, false, true, true, false] = true := by decide +kernel
theorem tr1_1 : treeB 1 7 1048576 5 sp1 sg1 ze1 [true, true, true, true, false] = true := by decide +kernel
theorem tr1_9 : treeB 1 7 1048576 5 sp1 sg1 ze1 [true, false, true, true, false] = true := by decide +kernel
theorem tr1_17 : treeB 1 7 1048576 5 sp1 sg1 ze1 [false, true, true, true, false] = true := by decide +kernel
theorem tr1_25 : treeB 1 7 1048576 5 sp1 sg1 ze1 [false, false, true, true, false] = true := by decide +kernel
end Go.Proofs.YtogbdnecpdcmiabDoor.Mr
