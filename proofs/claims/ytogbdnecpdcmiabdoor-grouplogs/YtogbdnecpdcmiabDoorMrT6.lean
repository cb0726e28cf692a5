/- Trees of the search for three primes. -/
import Derived.Test.YtogbdnecpdcmiabDoorMrE
/- Trees, made by a program (genT.py). -/
set_option maxRecDepth 100000
namespace Go.Proofs.YtogbdnecpdcmiabDoor.Mr
theorem tr3_6 : treeB 3 7 1048576 5 sp3 sg3 ze3 [true, true, false, false, true] = true := by decide +kernel
theorem tr3_14 : treeB 3 7 1048576 5 sp3 sg3 ze3 [true, false, false, false, true] = true := by decide +kernel
theorem tr3_22 : treeB 3 7 1048576 5 sp3 sg3 ze3 [false, true, false, false, true] = true := by decide +kernel
theorem tr3_30 : treeB 3 7 1048576 5 sp3 sg3 ze3 [false, false, false, false, true] = true := by decide +kernel
theorem tr7_6 : treeB 7 7 1048576 5 sp7 sg7 ze7 [true, true, false, false, true] = true := by decide +kernel
theorem tr7_14 : treeB 7 7 1048576 5 sp7 sg7 ze7 [true, false, false, false, true] = true := by decide +kernel
theorem tr7_22 : treeB 7 7 1048576 5 sp7 sg7 ze7 [false, true, false, false, true] = true := by decide +kernel
theorem tr7_30 : treeB 7 7 1048576 5 sp7 sg7 ze7 [false, false, false, false, true] = true := by decide +kernel
theorem tr5_6 : treeB 5 7 1048576 5 sp5 sg5 ze5 [true, true, false, false, true] = true := by decide +kernel
theorem tr5_14 : treeB 5 7 1048576 5 sp5 sg5 ze5 [true, false, false, false, true] = true := by decide +kernel
theorem tr5_22 : treeB 5 7 1048576 5 sp5 sg5 ze5 [false, true, false, false, true] = true := by decide +kernel
theorem tr5_30 : treeB 5 7 1048576 5 sp5 sg5 ze5 [false, false, false, false, true] = true := by decide +kernel
theorem tr1_6 : treeB 1 7 1048576 5 sp1 sg1 ze1 [true, true, false, false, true] = true := by decide +kernel
theorem tr1_14 : treeB 1 7 1048576 5 sp1 sg1 ze1 [true, false, false, false, true] = true := by decide +kernel
theorem tr1_22 : treeB 1 7 1048576 5 sp1 sg1 ze1 [false, true, false, false, true] = true := by decide +kernel
theorem tr1_30 : treeB 1 7 1048576 5 sp1 sg1 ze1 [false, false, false, false, true] = true := by decide +kernel
end Go.Proofs.YtogbdnecpdcmiabDoor.Mr
