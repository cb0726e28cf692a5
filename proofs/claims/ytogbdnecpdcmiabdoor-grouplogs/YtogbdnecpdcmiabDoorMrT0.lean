/- Trees of the search for three primes. -/
import Derived.Test.YtogbdnecpdcmiabDoorMrE
/- Trees, made by a program (genT.py). -/
set_option maxRecDepth 100000
namespace Go.Proofs.YtogbdnecpdcmiabDoor.Mr
theorem tr3_0 : treeB 3 7 1048576 5 sp3 sg3 ze3 [true, true, true, true, true] = true := by decide +kernel
theorem tr3_8 : treeB 3 7 1048576 5 sp3 sg3 ze3 [true, false, true, true, true] = true := by decide +kernel
theorem tr3_16 : treeB 3 7 1048576 5 sp3 sg3 ze3 [false, true, true, true, true] = true := by decide +kernel
theorem tr3_24 : treeB 3 7 1048576 5 sp3 sg3 ze3 [false, false, true, true, true] = true := by decide +kernel
theorem tr7_0 : treeB 7 7 1048576 5 sp7 sg7 ze7 [true, true, true, true, true] = true := by decide +kernel
theorem tr7_8 : treeB 7 7 1048576 5 sp7 sg7 ze7 [true, false, true, true, true] = true := by decide +kernel
theorem tr7_16 : treeB 7 7 1048576 5 sp7 sg7 ze7 [false, true, true, true, true] = true := by decide +kernel
theorem tr7_24 : treeB 7 7 1048576 5 sp7 sg7 ze7 [false, false, true, true, true] = true := by decide +kernel
theorem tr5_0 : treeB 5 7 1048576 5 sp5 sg5 ze5 [true, true, true, true, true] = true := by decide +kernel
theorem tr5_8 : treeB 5 7 1048576 5 sp5 sg5 ze5 [true, false, true, true, true] = true := by decide +kernel
theorem tr5_16 : treeB 5 7 1048576 5 sp5 sg5 ze5 [false, true, true, true, true] = true := by decide +kernel
theorem tr5_24 : treeB 5 7 1048576 5 sp5 sg5 ze5 [false, false, true, true, true] = true := by decide +kernel
theorem tr1_0 : treeB 1 7 1048576 5 sp1 sg1 ze1 [true, true, true, true, true] = true := by decide +kernel
theorem tr1_8 : treeB 1 7 1048576 5 sp1 sg1 ze1 [true, false, true, true, true] = true := by decide +kernel
theorem tr1_16 : treeB 1 7 1048576 5 sp1 sg1 ze1 [false, true, true, true, true] = true := by decide +kernel
theorem tr1_24 : treeB 1 7 1048576 5 sp1 sg1 ze1 [false, false, true, true, true] = true := by decide +kernel
end Go.Proofs.YtogbdnecpdcmiabDoor.Mr
