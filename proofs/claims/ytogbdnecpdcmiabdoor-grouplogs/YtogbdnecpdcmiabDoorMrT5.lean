/- Trees of the search for three primes. -/
import Derived.Test.YtogbdnecpdcmiabDoorMrE
/- Trees, made by a program (genT.py). -/
set_option maxRecDepth 100000
namespace Go.Proofs.YtogbdnecpdcmiabDoor.Mr
theorem tr3_5 : treeB 3 7 1048576 5 sp3 sg3 ze3 [true, true, false, true, false] = true := by decide +kernel
theorem tr3_13 : treeB 3 7 1048576 5 sp3 sg3 ze3 [true, false, false, true, false] = true := by decide +kernel
theorem tr3_21 : treeB 3 7 1048576 5 sp3 sg3 ze3 [false, true, false, true, false] = true := by decide +kernel
theorem tr3_29 : treeB 3 7 1048576 5 sp3 sg3 ze3 [false, false, false, true, false] = true := by decide +kernel
theorem tr7_5 : treeB 7 7 1048576 5 sp7 sg7 ze7 [true, true, false, true, false] = true := by decide +kernel
theorem tr7_13 : treeB 7 7 1048576 5 sp7 sg7 ze7 [true, false, false, true, false] = true := by decide +kernel
theorem tr7_21 : treeB 7 7 1048576 5 sp7 sg7 ze7 [false, true, false, true, false] = true := by decide +kernel
theorem tr7_29 : treeB 7 7 1048576 5 sp7 sg7 ze7 [false, false, false, true, false] = true := by decide +kernel
theorem tr5_5 : treeB 5 7 1048576 5 sp5 sg5 ze5 [true, true, false, true, false] = true := by decide +kernel
theorem tr5_13 : treeB 5 7 1048576 5 sp5 sg5 ze5 [true, false, false, true, false] = true := by decide +kernel
theorem tr5_21 : treeB 5 7 1048576 5 sp5 sg5 ze5 [false, true, false, true, false] = true := by decide +kernel
theorem tr5_29 : treeB 5 7 1048576 5 sp5 sg5 ze5 [false, false, false, true, false] = true := by decide +kernel
theorem tr1_5 : treeB 1 7 1048576 5 sp1 sg1 ze1 [true, true, false, true, false] = true := by decide +kernel
theorem tr1_13 : treeB 1 7 1048576 5 sp1 sg1 ze1 [true, false, false, true, false] = true := by decide +kernel
theorem tr1_21 : treeB 1 7 1048576 5 sp1 sg1 ze1 [false, true, false, true, false] = true := by decide +kernel
theorem tr1_29 : treeB 1 7 1048576 5 sp1 sg1 ze1 [false, false, false, true, false] = true := by decide +kernel
end Go.Proofs.YtogbdnecpdcmiabDoor.Mr
