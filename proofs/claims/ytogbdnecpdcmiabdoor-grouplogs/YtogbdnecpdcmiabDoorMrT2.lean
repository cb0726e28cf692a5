/- Trees of the search for three primes. -/
import Derived.Test.YtogbdnecpdcmiabDoorMrE
/- Trees, made by a program (genT.py). -/
set_option maxRecDepth 100000
namespace Go.Proofs.YtogbdnecpdcmiabDoor.Mr
theorem tr3_2 : treeB 3 7 1048576 5 sp3 sg3 ze3 [true, true, true, false, true] = true := by decide +kernel
theorem tr3_10 : treeB 3 7 1048576 5 sp3 sg3 ze3 [true, false, true, false, true] = true := by decide +kernel
theorem tr3_18 : treeB 3 7 1048576 5 sp3 sg3 ze3 [false, true, true, false, true] = true := by decide +kernel
theorem tr3_26 : treeB 3 7 1048576 5 sp3 sg3 ze3 [false, false, true, false, true] = true := by decide +kernel
theorem tr7_2 : treeB 7 7 1048576 5 sp7 sg7 ze7 [true, true, true, false, true] = true := by decide +kernel
theorem tr7_10 : treeB 7 7 1048576 5 sp7 sg7 ze7 [true, false, true, false, true] = true := by decide +kernel
theorem tr7_18 : treeB 7 7 1048576 5 sp7 sg7 ze7 [false, true, true, false, true] = true := by decide +kernel
theorem tr7_26 : treeB 7 7 1048576 5 sp7 sg7 ze7 [false, false, true, false, true] = true := by decide +kernel
theorem tr5_2 : treeB 5 7 1048576 5 sp5 sg5 ze5 [true, true, true, false, true] = true := by decide +kernel
theorem tr5_10 : treeB 5 7 1048576 5 sp5 sg5 ze5 [true, false, true, false, true] = true := by decide +kernel
theorem tr5_18 : treeB 5 7 1048576 5 sp5 sg5 ze5 [false, true, true, false, true] = true := by decide +kernel
theorem tr5_26 : treeB 5 7 1048576 5 sp5 sg5 ze5 [false, false, true, false, true] = true := by decide +kernel
theorem tr1_2 : treeB 1 7 1048576 5 sp1 sg1 ze1 [true, true, true, false, true] = true := by decide +kernel
theorem tr1_10 : treeB 1 7 1048576 5 sp1 sg1 ze1 [true, false, true, false, true] = true := by decide +kernel
theorem tr1_18 : treeB 1 7 1048576 5 sp1 sg1 ze1 [false, true, true, false, true] = true := by decide +kernel
theorem tr1_26 : treeB 1 7 1048576 5 sp1 sg1 ze1 [false, false, true, false, true] = true := by decide +kernel
end Go.Proofs.YtogbdnecpdcmiabDoor.Mr
