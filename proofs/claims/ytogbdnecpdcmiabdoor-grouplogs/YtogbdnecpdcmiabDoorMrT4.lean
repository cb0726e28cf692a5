/- Trees of the search for three primes. -/
import Derived.Test.YtogbdnecpdcmiabDoorMrE
/- Trees, made by a program (genT.py). -/
set_option maxRecDepth 100000
namespace Go.Proofs.YtogbdnecpdcmiabDoor.Mr
theorem tr3_4 : treeB 3 7 1048576 5 sp3 sg3 ze3 [true, true, false, true, true] = true := by decide +kernel
theorem tr3_12 : treeB 3 7 1048576 5 sp3 sg3 ze3 [true, false, false, true, true] = true := by decide +kernel
theorem tr3_20 : treeB 3 7 1048576 5 sp3 sg3 ze3 [false, true, false, true, true] = true := by decide +kernel
theorem tr3_28 : treeB 3 7 1048576 5 sp3 sg3 ze3 [false, false, false, true, true] = true := by decide +kernel
theorem tr7_4 : treeB 7 7 1048576 5 sp7 sg7 ze7 [true, true, false, true, true] = true := by decide +kernel
theorem tr7_12 : treeB 7 7 1048576 5 sp7 sg7 ze7 [true, false, false, true, true] = true := by decide +kernel
theorem tr7_20 : treeB 7 7 1048576 5 sp7 sg7 ze7 [false, true, false, true, true] = true := by decide +kernel
theorem tr7_28 : treeB 7 7 1048576 5 sp7 sg7 ze7 [false, false, false, true, true] = true := by decide +kernel
theorem tr5_4 : treeB 5 7 1048576 5 sp5 sg5 ze5 [true, true, false, true, true] = true := by decide +kernel
theorem tr5_12 : treeB 5 7 1048576 5 sp5 sg5 ze5 [true, false, false, true, true] = true := by decide +kernel
theorem tr5_20 : treeB 5 7 1048576 5 sp5 sg5 ze5 [false, true, false, true, true] = true := by decide +kernel
theorem tr5_28 : treeB 5 7 1048576 5 sp5 sg5 ze5 [false, false, false, true, true] = true := by decide +kernel
theorem tr1_4 : treeB 1 7 1048576 5 sp1 sg1 ze1 [true, true, false, true, true] = true := by decide +kernel
theorem tr1_12 : treeB 1 7 1048576 5 sp1 sg1 ze1 [true, false, false, true, true] = true := by decide +kernel
theorem tr1_20 : treeB 1 7 1048576 5 sp1 sg1 ze1 [false, true, false, true, true] = true := by decide +kernel
theorem tr1_28 : treeB 1 7 1048576 5 sp1 sg1 ze1 [false, false, false, true, true] = true := by decide +kernel
end Go.Proofs.YtogbdnecpdcmiabDoor.Mr
