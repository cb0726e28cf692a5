/- Trees of the search for three primes. -/
import Derived.Test.YtogbdnecpdcmiabDoorMrE
/- Trees, made by a program (genT.py). -/
set_option maxRecDepth 100000
namespace Go.Proofs.YtogbdnecpdcmiabDoor.Mr
theorem tr3_7 : treeB 3 7 1048576 5 sp3 sg3 ze3 [true, true, false, false, false] = true := by decide +kernel
theorem tr3_15 : treeB 3 7 1048576 5 sp3 sg3 ze3 [true, false, false, false, false] = true := by decide +kernel
theorem tr3_23 : treeB 3 7 1048576 5 sp3 sg3 ze3 [false, true, false, false, false] = true := by decide +kernel
theorem tr3_31 : treeB 3 7 1048576 5 sp3 sg3 ze3 [false, false, false, false, false] = true := by decide +kernel
theorem tr7_7 : treeB 7 7 1048576 5 sp7 sg7 ze7 [true, true, false, false, false] = true := by decide +kernel
theorem tr7_15 : treeB 7 7 1048576 5 sp7 sg7 ze7 [true, false, false, false, false] = true := by decide +kernel
theorem tr7_23 : treeB 7 7 1048576 5 sp7 sg7 ze7 [false, true, false, false, false] = true := by decide +kernel
theorem tr7_31 : treeB 7 7 1048576 5 sp7 sg7 ze7 [false, false, false, false, false] = true := by decide +kernel
theorem tr5_7 : treeB 5 7 1048576 5 sp5 sg5 ze5 [true, true, false, false, false] = true := by decide +kernel
theorem tr5_15 : treeB 5 7 1048576 5 sp5 sg5 ze5 [true, false, false, false, false] = true := by decide +kernel
theorem tr5_23 : treeB 5 7 1048576 5 sp5 sg5 ze5 [false, true, false, false, false] = true := by decide +kernel
theorem tr5_31 : treeB 5 7 1048576 5 sp5 sg5 ze5 [false, false, false, false, false] = true := by decide +kernel
theorem tr1_7 : treeB 1 7 1048576 5 sp1 sg1 ze1 [true, true, false, false, false] = true := by decide +kernel
theorem tr1_15 : treeB 1 7 1048576 5 sp1 sg1 ze1 [true, false, false, false, false] = true := by decide +kernel
theorem tr1_23 : treeB 1 7 1048576 5 sp1 sg1 ze1 [false, true, false, false, false] = true := by decide +kernel
theorem tr1_31 : treeB 1 7 1048576 5 sp1 sg1 ze1 [false, false, false, false, false] = true := by decide +kernel
end Go.Proofs.YtogbdnecpdcmiabDoor.Mr
