/- Trees of the search for three primes. -/
import Derived.Test.YtogbdnecpdcmiabDoorMrE
/- Trees, made by a program (genT.py). -/
set_option maxRecDepth 100000
namespace Go.Proofs.YtogbdnecpdcmiabDoor.Mr
theorem tr3_3 : treeB 3 7 1048576 5 sp3 sg3 ze3 [true, true, true, false, false] = true := by decide +kernel
theorem tr3_11 : treeB 3 7 1048576 5 sp3 sg3 ze3 [true, false, true, false, false] = true := by decide +kernel
theorem tr3_19 : treeB 3 7 1048576 5 sp3 sg3 ze3 [false, true, true, false, false] = true := by decide +kernel
theorem tr3_27 : treeB 3 7 1048576 5 sp3 sg3 ze3 [false, false, true, false, false] = true := by decide +kernel
theorem tr7_3 : treeB 7 7 1048576 5 sp7 sg7 ze7 [true, true, true, false, false] = true := by decide +kernel
theorem tr7_11 : treeB 7 7 1048576 5 sp7 sg7 ze7 [true, false, true, false, false] = true := by decide +kernel
theorem tr7_19 : treeB 7 7 1048576 5 sp7 sg7 ze7 [false, true, true, false, false] = true := by decide +kernel
theorem tr7_27 : treeB 7 7 1048576 5 sp7 sg7 ze7 [false, false, true, false, false] = true := by decide +kernel
theorem tr5_3 : treeB 5 7 1048576 5 sp5 sg5 ze5 [true, true, true, false, false] = true := by decide +kernel
theorem tr5_11 : treeB 5 7 1048576 5 sp5 sg5 ze5 [true, false, true, false, false] = true := by decide +kernel
theorem tr5_19 : treeB 5 7 1048576 5 sp5 sg5 ze5 [false, true, true, false, false] = true := by decide +kernel
theorem tr5_27 : treeB 5 7 1048576 5 sp5 sg5 ze5 [false, false, true, false, false] = true := by decide +kernel
theorem tr1_3 : treeB 1 7 1048576 5 sp1 sg1 ze1 [true, true, true, false, false] = true := by decide +kernel
theorem tr1_11 : treeB 1 7 1048576 5 sp1 sg1 ze1 [true, false, true, false, false] = true := by decide +kernel
theorem tr1_19 : treeB 1 7 1048576 5 sp1 sg1 ze1 [false, true, true, false, false] = true := by decide +kernel
theorem tr1_27 : treeB 1 7 1048576 5 sp1 sg1 ze1 [false, false, true, false, false] = true := by decide +kernel
end Go.Proofs.YtogbdnecpdcmiabDoor.Mr
