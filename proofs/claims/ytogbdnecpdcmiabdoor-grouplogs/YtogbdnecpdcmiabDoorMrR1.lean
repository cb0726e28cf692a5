/- Rows of the sieve for two primes of odd index, the rest. -/
import Derived.Test.YtogbdnecpdcmiabDoorMrD
/- Rows of the sieve for n = p q, checked by the kernel: made by a program (genA.py). -/
namespace Go.Proofs.YtogbdnecpdcmiabDoor.Mr
set_option maxRecDepth 100000
theorem r81_0 : row 6 81 55581 1 1 = true := by decide +kernel
theorem r81_1 : row 6 81 55581 3 1 = true := by decide +kernel
theorem r81_2 : row 6 81 55581 5 1 = true := by decide +kernel
theorem r81_3 : row 5 81 55581 7 1 = true := by decide +kernel
theorem r81_4 : row 5 81 55581 9 1 = true := by decide +kernel
theorem r81_5 : row 5 81 55581 11 1 = true := by decide +kernel
theorem r81_6 : row 5 81 55581 13 1 = true := by decide +kernel
theorem r81_7 : row 5 81 55581 15 2 = true := by decide +kernel
theorem r81_8 : row 4 81 55581 19 3 = true := by decide +kernel
theorem r81_9 : row 4 81 55581 25 3 = true := by decide +kernel
theorem r81_10 : row 4 81 55581 31 3 = true := by decide +kernel
theorem r81_11 : row 4 81 55581 37 2 = true := by decide +kernel
theorem r81_12 : row 4 81 55581 41 1 = true := by decide +kernel
theorem r81_13 : row 4 81 55581 43 1 = true := by decide +kernel
theorem r81_14 : row 3 81 55581 45 5 = true := by decide +kernel
theorem r81_15 : row 3 81 55581 55 3 = true := by decide +kernel
theorem r81_16 : row 3 81 55581 61 3 = true := by decide +kernel
theorem r81_17 : row 3 81 55581 67 5 = true := by decide +kernel
theorem r81_18 : row 3 81 55581 77 2 = true := by decide +kernel
theorem r83_0 : row 6 83 57496 1 1 = true := by decide +kernel
theorem r83_1 : row 6 83 57496 3 1 = true := by decide +kernel
theorem r83_2 : row 6 83 57496 5 1 = true := by decide +kernel
theorem r83_3 : row 5 83 57496 7 1 = true := by decide +kernel
theorem r83_4 : row 5 83 57496 9 1 = true := by decide +kernel
theorem r83_5 : row 5 83 57496 11 1 = true := by decide +kernel
theorem r83_6 : row 5 83 57496 13 1 = true := by decide +kernel
theorem r83_7 : row 5 83 57496 15 1 = true := by decide +kernel
theorem r83_8 : row 5 83 57496 17 1 = true := by decide +kernel
theorem r83_9 : row 4 83 57496 19 2 = true := by decide +kernel
theorem r83_10 : row 4 83 57496 23 1 = true := by decide +kernel
theorem r83_11 : row 4 83 57496 25 1 = true := by decide +kernel
theorem r83_12 : row 4 83 57496 27 1 = true := by decide +kernel
theorem r83_13 : row 4 83 57496 29 1 = true := by decide +kernel
theorem r83_14 : row 4 83 57496 31 2 = true := by decide +kernel
theorem r83_15 : row 4 83 57496 35 2 = true := by decide +kernel
theorem r83_16 : row 4 83 57496 39 1 = true := by decide +kernel
theorem r83_17 : row 4 83 57496 41 1 = true := by decide +kernel
theorem r83_18 : row 3 83 57496 43 2 = true := by decide +kernel
theorem r83_19 : row 3 83 57496 47 3 = true := by decide +kernel
theorem r83_20 : row 3 83 57496 53 1 = true := by decide +kernel
theorem r83_21 : row 3 83 57496 55 2 = true := by decide +kernel
theorem r83_22 : row 3 83 57496 59 2 = true := by decide +kernel
theorem r83_23 : row 3 83 57496 63 3 = true := by decide +kernel
theorem r83_24 : row 3 83 57496 69 2 = true := by decide +kernel
theorem r83_25 : row 3 83 57496 73 3 = true := by decide +kernel
theorem r83_26 : row 2 83 57496 79 2 = true := by decide +kernel
theorem r85_0 : row 6 85 59512 1 1 = true := by decide +kernel
theorem r85_1 : row 6 85 59512 3 2 = true := by decide +kernel
theorem r85_2 : row 5 85 59512 7 1 = true := by decide +kernel
theorem r85_3 : row 5 85 59512 9 1 = true := by decide +kernel
theorem r85_4 : row 5 85 59512 11 1 = true := by decide +kernel
theorem r85_5 : row 5 85 59512 13 1 = true := by decide +kernel
theorem r85_6 : row 5 85 59512 15 1 = true := by decide +kernel
theorem r85_7 : row 4 85 59512 17 1 = true := by decide +kernel
theorem r85_8 : row 4 85 59512 19 1 = true := by decide +kernel
theorem r85_9 : row 4 85 59512 21 3 = true := by decide +kernel
theorem r85_10 : row 4 85 59512 27 1 = true := by decide +kernel
theorem r85_11 : row 4 85 59512 29 1 = true := by decide +kernel
theorem r85_12 : row 4 85 59512 31 1 = true := by decide +kernel
theorem r85_13 : row 4 85 59512 33 2 = true := by decide +kernel
theorem r85_14 : row 4 85 59512 37 2 = true := by decide +kernel
theorem r85_15 : row 3 85 59512 41 1 = true := by decide +kernel
theorem r85_16 : row 3 85 59512 43 2 = true := by decide +kernel
theorem r85_17 : row 3 85 59512 47 3 = true := by decide +kernel
theorem r85_18 : row 3 85 59512 53 3 = true := by decide +kernel
theorem r85_19 : row 3 85 59512 59 2 = true := by decide +kernel
theorem r85_20 : row 3 85 59512 63 4 = true := by decide +kernel
theorem r85_21 : row 3 85 59512 71 1 = true := by decide +kernel
theorem r85_22 : row 2 85 59512 73 5 = true := by decide +kernel
theorem r85_23 : row 2 85 59512 83 1 = true := by decide +kernel
theorem r87_0 : row 6 87 61632 1 1 = true := by decide +kernel
theorem r87_1 : row 6 87 61632 3 2 = true := by decide +kernel
theorem r87_2 : row 5 87 61632 7 1 = true := by decide +kernel
theorem r87_3 : row 5 87 61632 9 1 = true := by decide +kernel
theorem r87_4 : row 5 87 61632 11 1 = true := by decide +kernel
theorem r87_5 : row 5 87 61632 13 2 = true := by decide +kernel
theorem r87_6 : row 4 87 61632 17 1 = true := by decide +kernel
theorem r87_7 : row 4 87 61632 19 3 = true := by decide +kernel
theorem r87_8 : row 4 87 61632 25 3 = true := by decide +kernel
theorem r87_9 : row 4 87 61632 31 2 = true := by decide +kernel
theorem r87_10 : row 4 87 61632 35 1 = true := by decide +kernel
theorem r87_11 : row 4 87 61632 37 1 = true := by decide +kernel
theorem r87_12 : row 3 87 61632 39 5 = true := by decide +kernel
theorem r87_13 : row 3 87 61632 49 5 = true := by decide +kernel
theorem r87_14 : row 3 87 61632 59 4 = true := by decide +kernel
theorem r87_15 : row 3 87 61632 67 1 = true := by decide +kernel
theorem r87_16 : row 2 87 61632 69 7 = true := by decide +kernel
theorem r87_17 : row 2 87 61632 83 2 = true := by decide +kernel
theorem r89_0 : row 6 89 63862 1 1 = true := by decide +kernel
theorem r89_1 : row 6 89 63862 3 1 = true := by decide +kernel
theorem r89_2 : row 6 89 63862 5 1 = true := by decide +kernel
theorem r89_3 : row 5 89 63862 7 1 = true := by decide +kernel
theorem r89_4 : row 5 89 63862 9 1 = true := by decide +kernel
theorem r89_5 : row 5 89 63862 11 1 = true := by decide +kernel
theorem r89_6 : row 5 89 63862 13 1 = true := by decide +kernel
theorem r89_7 : row 5 89 63862 15 1 = true := by decide +kernel
theorem r89_8 : row 4 89 63862 17 1 = true := by decide +kernel
theorem r89_9 : row 4 89 63862 19 1 = true := by decide +kernel
theorem r89_10 : row 4 89 63862 21 1 = true := by decide +kernel
theorem r89_11 : row 4 89 63862 23 1 = true := by decide +kernel
theorem r89_12 : row 4 89 63862 25 2 = true := by decide +kernel
theorem r89_13 : row 4 89 63862 29 1 = true := by decide +kernel
theorem r89_14 : row 4 89 63862 31 2 = true := by decide +kernel
theorem r89_15 : row 4 89 63862 35 1 = true := by decide +kernel
theorem r89_16 : row 3 89 63862 37 2 = true := by decide +kernel
theorem r89_17 : row 3 89 63862 41 3 = true := by decide +kernel
theorem r89_18 : row 3 89 63862 47 1 = true := by decide +kernel
theorem r89_19 : row 3 89 63862 49 2 = true := by decide +kernel
theorem r89_20 : row 3 89 63862 53 3 = true := by decide +kernel
theorem r89_21 : row 3 89 63862 59 2 = true := by decide +kernel
theorem r89_22 : row 2 89 63862 63 3 = true := by decide +kernel
theorem r89_23 : row 2 89 63862 69 4 = true := by decide +kernel
theorem r89_24 : row 2 89 63862 77 3 = true := by decide +kernel
theorem r89_25 : row 2 89 63862 83 3 = true := by decide +kernel
theorem r91_0 : row 6 91 66206 1 1 = true := by decide +kernel
theorem r91_1 : row 6 91 66206 3 1 = true := by decide +kernel
theorem r91_2 : row 6 91 66206 5 1 = true := by decide +kernel
theorem r91_3 : row 5 91 66206 7 2 = true := by decide +kernel
theorem r91_4 : row 5 91 66206 11 1 = true := by decide +kernel
theorem r91_5 : row 5 91 66206 13 1 = true := by decide +kernel
theorem r91_6 : row 4 91 66206 15 1 = true := by decide +kernel
theorem r91_7 : row 4 91 66206 17 1 = true := by decide +kernel
theorem r91_8 : row 4 91 66206 19 2 = true := by decide +kernel
theorem r91_9 : row 4 91 66206 23 1 = true := by decide +kernel
theorem r91_10 : row 4 91 66206 25 1 = true := by decide +kernel
theorem r91_11 : row 4 91 66206 27 2 = true := by decide +kernel
theorem r91_12 : row 4 91 66206 31 1 = true := by decide +kernel
theorem r91_13 : row 4 91 66206 33 1 = true := by decide +kernel
theorem r91_14 : row 3 91 66206 35 4 = true := by decide +kernel
theorem r91_15 : row 3 91 66206 43 2 = true := by decide +kernel
theorem r91_16 : row 3 91 66206 47 2 = true := by decide +kernel
theorem r91_17 : row 3 91 66206 51 2 = true := by decide +kernel
theorem r91_18 : row 3 91 66206 55 2 = true := by decide +kernel
theorem r91_19 : row 2 91 66206 59 4 = true := by decide +kernel
theorem r91_20 : row 2 91 66206 67 3 = true := by decide +kernel
theorem r91_21 : row 2 91 66206 73 4 = true := by decide +kernel
theorem r91_22 : row 2 91 66206 81 2 = true := by decide +kernel
theorem r91_23 : row 1 91 66206 85 3 = true := by decide +kernel
theorem r93_0 : row 6 93 68669 1 1 = true := by decide +kernel
theorem r93_1 : row 6 93 68669 3 1 = true := by decide +kernel
theorem r93_2 : row 6 93 68669 5 1 = true := by decide +kernel
theorem r93_3 : row 5 93 68669 7 3 = true := by decide +kernel
theorem r93_4 : row 5 93 68669 13 1 = true := by decide +kernel
theorem r93_5 : row 4 93 68669 15 2 = true := by decide +kernel
theorem r93_6 : row 4 93 68669 19 2 = true := by decide +kernel
theorem r93_7 : row 4 93 68669 23 1 = true := by decide +kernel
theorem r93_8 : row 4 93 68669 25 4 = true := by decide +kernel
theorem r93_9 : row 3 93 68669 33 4 = true := by decide +kernel
theorem r93_10 : row 3 93 68669 41 4 = true := by decide +kernel
theorem r93_11 : row 3 93 68669 49 3 = true := by decide +kernel
theorem r93_12 : row 2 93 68669 55 5 = true := by decide +kernel
theorem r93_13 : row 2 93 68669 65 4 = true := by decide +kernel
theorem r93_14 : row 2 93 68669 73 3 = true := by decide +kernel
theorem r93_15 : row 1 93 68669 79 7 = true := by decide +kernel
theorem r95_0 : row 6 95 67223 1 1 = true := by decide +kernel
theorem r95_1 : row 6 95 67223 3 1 = true := by decide +kernel
theorem r95_2 : row 6 95 67223 5 1 = true := by decide +kernel
theorem r95_3 : row 5 95 67223 7 1 = true := by decide +kernel
theorem r95_4 : row 5 95 67223 9 1 = true := by decide +kernel
theorem r95_5 : row 5 95 67223 11 1 = true := by decide +kernel
theorem r95_6 : row 5 95 67223 13 1 = true := by decide +kernel
theorem r95_7 : row 4 95 67223 15 1 = true := by decide +kernel
theorem r95_8 : row 4 95 67223 17 1 = true := by decide +kernel
theorem r95_9 : row 4 95 67223 19 2 = true := by decide +kernel
theorem r95_10 : row 4 95 67223 23 2 = true := by decide +kernel
theorem r95_11 : row 4 95 67223 27 1 = true := by decide +kernel
theorem r95_12 : row 4 95 67223 29 2 = true := by decide +kernel
theorem r95_13 : row 3 95 67223 33 3 = true := by decide +kernel
theorem r95_14 : row 3 95 67223 39 2 = true := by decide +kernel
theorem r95_15 : row 3 95 67223 43 3 = true := by decide +kernel
theorem r95_16 : row 3 95 67223 49 2 = true := by decide +kernel
theorem r95_17 : row 3 95 67223 53 2 = true := by decide +kernel
theorem r95_18 : row 2 95 67223 57 5 = true := by decide +kernel
theorem r95_19 : row 2 95 67223 67 3 = true := by decide +kernel
theorem r95_20 : row 2 95 67223 73 3 = true := by decide +kernel
theorem r95_21 : row 1 95 67223 79 5 = true := by decide +kernel
theorem r95_22 : row 1 95 67223 89 3 = true := by decide +kernel
theorem r97_0 : row 6 97 69788 1 1 = true := by decide +kernel
theorem r97_1 : row 6 97 69788 3 1 = true := by decide +kernel
theorem r97_2 : row 5 97 69788 5 1 = true := by decide +kernel
theorem r97_3 : row 5 97 69788 7 1 = true := by decide +kernel
theorem r97_4 : row 5 97 69788 9 1 = true := by decide +kernel
theorem r97_5 : row 5 97 69788 11 1 = true := by decide +kernel
theorem r97_6 : row 5 97 69788 13 1 = true := by decide +kernel
theorem r97_7 : row 4 97 69788 15 1 = true := by decide +kernel
theorem r97_8 : row 4 97 69788 17 1 = true := by decide +kernel
theorem r97_9 : row 4 97 69788 19 1 = true := by decide +kernel
theorem r97_10 : row 4 97 69788 21 2 = true := by decide +kernel
theorem r97_11 : row 4 97 69788 25 1 = true := by decide +kernel
theorem r97_12 : row 4 97 69788 27 1 = true := by decide +kernel
theorem r97_13 : row 4 97 69788 29 1 = true := by decide +kernel
theorem r97_14 : row 3 97 69788 31 3 = true := by decide +kernel
theorem r97_15 : row 3 97 69788 37 1 = true := by decide +kernel
theorem r97_16 : row 3 97 69788 39 2 = true := by decide +kernel
theorem r97_17 : row 3 97 69788 43 3 = true := by decide +kernel
theorem r97_18 : row 3 97 69788 49 2 = true := by decide +kernel
theorem r97_19 : row 2 97 69788 53 2 = true := by decide +kernel
theorem r97_20 : row 2 97 69788 57 4 = true := by decide +kernel
theorem r97_21 : row 2 97 69788 65 2 = true := by decide +kernel
theorem r97_22 : row 2 97 69788 69 2 = true := by decide +kernel
theorem r97_23 : row 1 97 69788 73 4 = true := by decide +kernel
theorem r97_24 : row 1 97 69788 81 4 = true := by decide +kernel
theorem r97_25 : row 0 97 69788 89 4 = true := by decide +kernel
theorem r99_0 : row 6 99 72481 1 1 = true := by decide +kernel
theorem r99_1 : row 6 99 72481 3 1 = true := by decide +kernel
theorem r99_2 : row 5 99 72481 5 1 = true := by decide +kernel
theorem r99_3 : row 5 99 72481 7 1 = true := by decide +kernel
theorem r99_4 : row 5 99 72481 9 2 = true := by decide +kernel
theorem r99_5 : row 4 99 72481 13 3 = true := by decide +kernel
theorem r99_6 : row 4 99 72481 19 2 = true := by decide +kernel
theorem r99_7 : row 4 99 72481 23 3 = true := by decide +kernel
theorem r99_8 : row 3 99 72481 29 1 = true := by decide +kernel
theorem r99_9 : row 3 99 72481 31 6 = true := by decide +kernel
theorem r99_10 : row 3 99 72481 43 3 = true := by decide +kernel
theorem r99_11 : row 2 99 72481 49 6 = true := by decide +kernel
theorem r99_12 : row 2 99 72481 61 3 = true := by decide +kernel
theorem r99_13 : row 1 99 72481 67 8 = true := by decide +kernel
theorem r99_14 : row 0 99 72481 83 8 = true := by decide +kernel
theorem rows4 : Covs ((covt.drop 39).take 10) :=
  ⟨((((((((((((((((((((CovY.one 81 55581).step r81_0 rfl rfl).step r81_1 rfl rfl).step r81_2 rfl rfl).step r81_3 rfl rfl).step r81_4 rfl rfl).step r81_5 rfl rfl).step r81_6 rfl rfl).step r81_7 rfl rfl).step r81_8 rfl rfl).step r81_9 rfl rfl).step r81_10 rfl rfl).step r81_11 rfl rfl).step r81_12 rfl rfl).step r81_13 rfl rfl).step r81_14 rfl rfl).step r81_15 rfl rfl).step r81_16 rfl rfl).step r81_17 rfl rfl).step r81_18 rfl rfl),
  ⟨((((((((((((((((((((((((((((CovY.one 83 57496).step r83_0 rfl rfl).step r83_1 rfl rfl).step r83_2 rfl rfl).step r83_3 rfl rfl).step r83_4 rfl rfl).step r83_5 rfl rfl).step r83_6 rfl rfl).step r83_7 rfl rfl).step r83_8 rfl rfl).step r83_9 rfl rfl).step r83_10 rfl rfl).step r83_11 rfl rfl).step r83_12 rfl rfl).step r83_13 rfl rfl).step r83_14 rfl rfl).step r83_15 rfl rfl).step r83_16 rfl rfl).step r83_17 rfl rfl).step r83_18 rfl rfl).step r83_19 rfl rfl).step r83_20 rfl rfl).step r83_21 rfl rfl).step r83_22 rfl rfl).step r83_23 rfl rfl).step r83_24 rfl rfl).step r83_25 rfl rfl).step r83_26 rfl rfl),
  ⟨(((((((((((((((((((((((((CovY.one 85 59512).step r85_0 rfl rfl).step r85_1 rfl rfl).step r85_2 rfl rfl).step r85_3 rfl rfl).step r85_4 rfl rfl).step r85_5 rfl rfl).step r85_6 rfl rfl).step r85_7 rfl rfl).step r85_8 rfl rfl).step r85_9 rfl rfl).step r85_10 rfl rfl).step r85_11 rfl rfl).step r85_12 rfl rfl).step r85_13 rfl rfl).step r85_14 rfl rfl).step r85_15 rfl rfl).step r85_16 rfl rfl).step r85_17 rfl rfl).step r85_18 rfl rfl).step r85_19 rfl rfl).step r85_20 rfl rfl).step r85_21 rfl rfl).step r85_22 rfl rfl).step r85_23 rfl rfl),
  ⟨(((((((((((((((((((CovY.one 87 61632).step r87_0 rfl rfl).step r87_1 rfl rfl).step r87_2 rfl rfl).step r87_3 rfl rfl).step r87_4 rfl rfl).step r87_5 rfl rfl).step r87_6 rfl rfl).step r87_7 rfl rfl).step r87_8 rfl rfl).step r87_9 rfl rfl).step r87_10 rfl rfl).step r87_11 rfl rfl).step r87_12 rfl rfl).step r87_13 rfl rfl).step r87_14 rfl rfl).step r87_15 rfl rfl).step r87_16 rfl rfl).step r87_17 rfl rfl),
  ⟨(((((((((((((((((((((((((((CovY.one 89 63862).step r89_0 rfl rfl).step r89_1 rfl rfl).step r89_2 rfl rfl).step r89_3 rfl rfl).step r89_4 rfl rfl).step r89_5 rfl rfl).step r89_6 rfl rfl).step r89_7 rfl rfl).step r89_8 rfl rfl).step r89_9 rfl rfl).step r89_10 rfl rfl).step r89_11 rfl rfl).step r89_12 rfl rfl).step r89_13 rfl rfl).step r89_14 rfl rfl).step r89_15 rfl rfl).step r89_16 rfl rfl).step r89_17 rfl rfl).step r89_18 rfl rfl).step r89_19 rfl rfl).step r89_20 rfl rfl).step r89_21 rfl rfl).step r89_22 rfl rfl).step r89_23 rfl rfl).step r89_24 rfl rfl).step r89_25 rfl rfl),
  ⟨(((((((((((((((((((((((((CovY.one 91 66206).step r91_0 rfl rfl).step r91_1 rfl rfl).step r91_2 rfl rfl).step r91_3 rfl rfl).step r91_4 rfl rfl).step r91_5 rfl rfl).step r91_6 rfl rfl).step r91_7 rfl rfl).step r91_8 rfl rfl).step r91_9 rfl rfl).step r91_10 rfl rfl).step r91_11 rfl rfl).step r91_12 rfl rfl).step r91_13 rfl rfl).step r91_14 rfl rfl).step r91_15 rfl rfl).step r91_16 rfl rfl).step r91_17 rfl rfl).step r91_18 rfl rfl).step r91_19 rfl rfl).step r91_20 rfl rfl).step r91_21 rfl rfl).step r91_22 rfl rfl).step r91_23 rfl rfl),
  ⟨(((((((((((((((((CovY.one 93 68669).step r93_0 rfl rfl).step r93_1 rfl rfl).step r93_2 rfl rfl).step r93_3 rfl rfl).step r93_4 rfl rfl).step r93_5 rfl rfl).step r93_6 rfl rfl).step r93_7 rfl rfl).step r93_8 rfl rfl).step r93_9 rfl rfl).step r93_10 rfl rfl).step r93_11 rfl rfl).step r93_12 rfl rfl).step r93_13 rfl rfl).step r93_14 rfl rfl).step r93_15 rfl rfl),
  ⟨((((((((((((((((((((((((CovY.one 95 67223).step r95_0 rfl rfl).step r95_1 rfl rfl).step r95_2 rfl rfl).step r95_3 rfl rfl).step r95_4 rfl rfl).step r95_5 rfl rfl).step r95_6 rfl rfl).step r95_7 rfl rfl).step r95_8 rfl rfl).step r95_9 rfl rfl).step r95_10 rfl rfl).step r95_11 rfl rfl).step r95_12 rfl rfl).step r95_13 rfl rfl).step r95_14 rfl rfl).step r95_15 rfl rfl).step r95_16 rfl rfl).step r95_17 rfl rfl).step r95_18 rfl rfl).step r95_19 rfl rfl).step r95_20 rfl rfl).step r95_21 rfl rfl).step r95_22 rfl rfl),
  ⟨(((((((((((((((((((((((((((CovY.one 97 69788).step r97_0 rfl rfl).step r97_1 rfl rfl).step r97_2 rfl rfl).step r97_3 rfl rfl).step r97_4 rfl rfl).step r97_5 rfl rfl).step r97_6 rfl rfl).step r97_7 rfl rfl).step r97_8 rfl rfl).step r97_9 rfl rfl).step r97_10 rfl rfl).step r97_11 rfl rfl).step r97_12 rfl rfl).step r97_13 rfl rfl).step r97_14 rfl rfl).step r97_15 rfl rfl).step r97_16 rfl rfl).step r97_17 rfl rfl).step r97_18 rfl rfl).step r97_19 rfl rfl).step r97_20 rfl rfl).step r97_21 rfl rfl).step r97_22 rfl rfl).step r97_23 rfl rfl).step r97_24 rfl rfl).step r97_25 rfl rfl),
  ⟨((((((((((((((((CovY.one 99 72481).step r99_0 rfl rfl).step r99_1 rfl rfl).step r99_2 rfl rfl).step r99_3 rfl rfl).step r99_4 rfl rfl).step r99_5 rfl rfl).step r99_6 rfl rfl).step r99_7 rfl rfl).step r99_8 rfl rfl).step r99_9 rfl rfl).step r99_10 rfl rfl).step r99_11 rfl rfl).step r99_12 rfl rfl).step r99_13 rfl rfl).step r99_14 rfl rfl), trivial⟩⟩⟩⟩⟩⟩⟩⟩⟩⟩
end Go.Proofs.YtogbdnecpdcmiabDoor.Mr
/- Rows of the sieve for n = p q, checked by the kernel: made by a program (genA.py). -/
namespace Go.Proofs.YtogbdnecpdcmiabDoor.Mr
set_option maxRecDepth 100000
theorem r101_0 : row 6 101 75308 1 1 = true := by decide +kernel
theorem r101_1 : row 6 101 75308 3 1 = true := by decide +kernel
theorem r101_2 : row 5 101 75308 5 1 = true := by decide +kernel
theorem r101_3 : row 5 101 75308 7 2 = true := by decide +kernel
theorem r101_4 : row 5 101 75308 11 1 = true := by decide +kernel
theorem r101_5 : row 4 101 75308 13 1 = true := by decide +kernel
theorem r101_6 : row 4 101 75308 15 1 = true := by decide +kernel
theorem r101_7 : row 4 101 75308 17 1 = true := by decide +kernel
theorem r101_8 : row 4 101 75308 19 2 = true := by decide +kernel
theorem r101_9 : row 4 101 75308 23 1 = true := by decide +kernel
theorem r101_10 : row 4 101 75308 25 1 = true := by decide +kernel
theorem r101_11 : row 3 101 75308 27 2 = true := by decide +kernel
theorem r101_12 : row 3 101 75308 31 1 = true := by decide +kernel
theorem r101_13 : row 3 101 75308 33 2 = true := by decide +kernel
theorem r101_14 : row 3 101 75308 37 2 = true := by decide +kernel
theorem r101_15 : row 3 101 75308 41 2 = true := by decide +kernel
theorem r101_16 : row 2 101 75308 45 3 = true := by decide +kernel
theorem r101_17 : row 2 101 75308 51 3 = true := by decide +kernel
theorem r101_18 : row 2 101 75308 57 3 = true := by decide +kernel
theorem r101_19 : row 1 101 75308 63 4 = true := by decide +kernel
theorem r101_20 : row 1 101 75308 71 2 = true := by decide +kernel
theorem r101_21 : row 0 101 75308 75 5 = true := by decide +kernel
theorem r101_22 : row 0 101 75308 85 4 = true := by decide +kernel
theorem r103_0 : row 6 103 73846 1 1 = true := by decide +kernel
theorem r103_1 : row 6 103 73846 3 1 = true := by decide +kernel
theorem r103_2 : row 5 103 73846 5 1 = true := by decide +kernel
theorem r103_3 : row 5 103 73846 7 1 = true := by decide +kernel
theorem r103_4 : row 5 103 73846 9 1 = true := by decide +kernel
theorem r103_5 : row 5 103 73846 11 1 = true := by decide +kernel
theorem r103_6 : row 4 103 73846 13 1 = true := by decide +kernel
theorem r103_7 : row 4 103 73846 15 2 = true := by decide +kernel
theorem r103_8 : row 4 103 73846 19 1 = true := by decide +kernel
theorem r103_9 : row 4 103 73846 21 2 = true := by decide +kernel
theorem r103_10 : row 4 103 73846 25 1 = true := by decide +kernel
theorem r103_11 : row 3 103 73846 27 3 = true := by decide +kernel
theorem r103_12 : row 3 103 73846 33 1 = true := by decide +kernel
theorem r103_13 : row 3 103 73846 35 2 = true := by decide +kernel
theorem r103_14 : row 3 103 73846 39 2 = true := by decide +kernel
theorem r103_15 : row 3 103 73846 43 1 = true := by decide +kernel
theorem r103_16 : row 2 103 73846 45 4 = true := by decide +kernel
theorem r103_17 : row 2 103 73846 53 4 = true := by decide +kernel
theorem r103_18 : row 2 103 73846 61 1 = true := by decide +kernel
theorem r103_19 : row 1 103 73846 63 5 = true := by decide +kernel
theorem r103_20 : row 1 103 73846 73 2 = true := by decide +kernel
theorem r103_21 : row 0 103 73846 77 6 = true := by decide +kernel
theorem r103_22 : row 0 103 73846 89 3 = true := by decide +kernel
theorem r105_0 : row 6 105 76785 1 1 = true := by decide +kernel
theorem r105_1 : row 6 105 76785 3 1 = true := by decide +kernel
theorem r105_2 : row 5 105 76785 5 4 = true := by decide +kernel
theorem r105_3 : row 4 105 76785 13 2 = true := by decide +kernel
theorem r105_4 : row 4 105 76785 17 1 = true := by decide +kernel
theorem r105_5 : row 4 105 76785 19 3 = true := by decide +kernel
theorem r105_6 : row 3 105 76785 25 6 = true := by decide +kernel
theorem r105_7 : row 3 105 76785 37 3 = true := by decide +kernel
theorem r105_8 : row 2 105 76785 43 8 = true := by decide +kernel
theorem r105_9 : row 1 105 76785 59 5 = true := by decide +kernel
theorem r105_10 : row 0 105 76785 69 8 = true := by decide +kernel
theorem r107_0 : row 6 107 79871 1 1 = true := by decide +kernel
theorem r107_1 : row 6 107 79871 3 1 = true := by decide +kernel
theorem r107_2 : row 5 107 79871 5 1 = true := by decide +kernel
theorem r107_3 : row 5 107 79871 7 1 = true := by decide +kernel
theorem r107_4 : row 5 107 79871 9 1 = true := by decide +kernel
theorem r107_5 : row 4 107 79871 11 2 = true := by decide +kernel
theorem r107_6 : row 4 107 79871 15 1 = true := by decide +kernel
theorem r107_7 : row 4 107 79871 17 1 = true := by decide +kernel
theorem r107_8 : row 4 107 79871 19 1 = true := by decide +kernel
theorem r107_9 : row 4 107 79871 21 2 = true := by decide +kernel
theorem r107_10 : row 3 107 79871 25 2 = true := by decide +kernel
theorem r107_11 : row 3 107 79871 29 2 = true := by decide +kernel
theorem r107_12 : row 3 107 79871 33 2 = true := by decide +kernel
theorem r107_13 : row 3 107 79871 37 1 = true := by decide +kernel
theorem r107_14 : row 2 107 79871 39 4 = true := by decide +kernel
theorem r107_15 : row 2 107 79871 47 1 = true := by decide +kernel
theorem r107_16 : row 2 107 79871 49 2 = true := by decide +kernel
theorem r107_17 : row 1 107 79871 53 4 = true := by decide +kernel
theorem r107_18 : row 1 107 79871 61 2 = true := by decide +kernel
theorem r107_19 : row 0 107 79871 65 3 = true := by decide +kernel
theorem r107_20 : row 0 107 79871 71 3 = true := by decide +kernel
theorem r109_0 : row 6 109 83110 1 1 = true := by decide +kernel
theorem r109_1 : row 6 109 83110 3 1 = true := by decide +kernel
theorem r109_2 : row 5 109 83110 5 1 = true := by decide +kernel
theorem r109_3 : row 5 109 83110 7 1 = true := by decide +kernel
theorem r109_4 : row 5 109 83110 9 1 = true := by decide +kernel
theorem r109_5 : row 4 109 83110 11 1 = true := by decide +kernel
theorem r109_6 : row 4 109 83110 13 1 = true := by decide +kernel
theorem r109_7 : row 4 109 83110 15 2 = true := by decide +kernel
theorem r109_8 : row 4 109 83110 19 1 = true := by decide +kernel
theorem r109_9 : row 4 109 83110 21 1 = true := by decide +kernel
theorem r109_10 : row 3 109 83110 23 1 = true := by decide +kernel
theorem r109_11 : row 3 109 83110 25 1 = true := by decide +kernel
theorem r109_12 : row 3 109 83110 27 3 = true := by decide +kernel
theorem r109_13 : row 3 109 83110 33 2 = true := by decide +kernel
theorem r109_14 : row 2 109 83110 37 2 = true := by decide +kernel
theorem r109_15 : row 2 109 83110 41 4 = true := by decide +kernel
theorem r109_16 : row 1 109 83110 49 2 = true := by decide +kernel
theorem r109_17 : row 1 109 83110 53 3 = true := by decide +kernel
theorem r109_18 : row 0 109 83110 59 4 = true := by decide +kernel
theorem r109_19 : row 0 109 83110 67 2 = true := by decide +kernel
theorem r111_0 : row 6 111 81613 1 1 = true := by decide +kernel
theorem r111_1 : row 6 111 81613 3 1 = true := by decide +kernel
theorem r111_2 : row 5 111 81613 5 1 = true := by decide +kernel
theorem r111_3 : row 5 111 81613 7 1 = true := by decide +kernel
theorem r111_4 : row 5 111 81613 9 1 = true := by decide +kernel
theorem r111_5 : row 4 111 81613 11 1 = true := by decide +kernel
theorem r111_6 : row 4 111 81613 13 3 = true := by decide +kernel
theorem r111_7 : row 4 111 81613 19 2 = true := by decide +kernel
theorem r111_8 : row 3 111 81613 23 4 = true := by decide +kernel
theorem r111_9 : row 3 111 81613 31 3 = true := by decide +kernel
theorem r111_10 : row 2 111 81613 37 5 = true := by decide +kernel
theorem r111_11 : row 2 111 81613 47 2 = true := by decide +kernel
theorem r111_12 : row 1 111 81613 51 4 = true := by decide +kernel
theorem r111_13 : row 0 111 81613 59 6 = true := by decide +kernel
theorem r113_0 : row 6 113 84978 1 1 = true := by decide +kernel
theorem r113_1 : row 6 113 84978 3 1 = true := by decide +kernel
theorem r113_2 : row 5 113 84978 5 1 = true := by decide +kernel
theorem r113_3 : row 5 113 84978 7 1 = true := by decide +kernel
theorem r113_4 : row 5 113 84978 9 1 = true := by decide +kernel
theorem r113_5 : row 4 113 84978 11 1 = true := by decide +kernel
theorem r113_6 : row 4 113 84978 13 1 = true := by decide +kernel
theorem r113_7 : row 4 113 84978 15 2 = true := by decide +kernel
theorem r113_8 : row 4 113 84978 19 1 = true := by decide +kernel
theorem r113_9 : row 3 113 84978 21 1 = true := by decide +kernel
theorem r113_10 : row 3 113 84978 23 3 = true := by decide +kernel
theorem r113_11 : row 3 113 84978 29 1 = true := by decide +kernel
theorem r113_12 : row 3 113 84978 31 2 = true := by decide +kernel
theorem r113_13 : row 2 113 84978 35 3 = true := by decide +kernel
theorem r113_14 : row 2 113 84978 41 2 = true := by decide +kernel
theorem r113_15 : row 2 113 84978 45 1 = true := by decide +kernel
theorem r113_16 : row 1 113 84978 47 4 = true := by decide +kernel
theorem r113_17 : row 0 113 84978 55 5 = true := by decide +kernel
theorem r115_0 : row 6 115 88510 1 1 = true := by decide +kernel
theorem r115_1 : row 6 115 88510 3 1 = true := by decide +kernel
theorem r115_2 : row 5 115 88510 5 1 = true := by decide +kernel
theorem r115_3 : row 5 115 88510 7 1 = true := by decide +kernel
theorem r115_4 : row 5 115 88510 9 1 = true := by decide +kernel
theorem r115_5 : row 4 115 88510 11 1 = true := by decide +kernel
theorem r115_6 : row 4 115 88510 13 2 = true := by decide +kernel
theorem r115_7 : row 4 115 88510 17 1 = true := by decide +kernel
theorem r115_8 : row 4 115 88510 19 1 = true := by decide +kernel
theorem r115_9 : row 3 115 88510 21 5 = true := by decide +kernel
theorem r115_10 : row 2 115 88510 31 1 = true := by decide +kernel
theorem r115_11 : row 2 115 88510 33 5 = true := by decide +kernel
theorem r115_12 : row 1 115 88510 43 3 = true := by decide +kernel
theorem r115_13 : row 0 115 88510 49 5 = true := by decide +kernel
theorem r117_0 : row 6 117 86997 1 1 = true := by decide +kernel
theorem r117_1 : row 6 117 86997 3 1 = true := by decide +kernel
theorem r117_2 : row 5 117 86997 5 1 = true := by decide +kernel
theorem r117_3 : row 5 117 86997 7 1 = true := by decide +kernel
theorem r117_4 : row 5 117 86997 9 1 = true := by decide +kernel
theorem r117_5 : row 4 117 86997 11 4 = true := by decide +kernel
theorem r117_6 : row 4 117 86997 19 1 = true := by decide +kernel
theorem r117_7 : row 3 117 86997 21 4 = true := by decide +kernel
theorem r117_8 : row 3 117 86997 29 2 = true := by decide +kernel
theorem r117_9 : row 2 117 86997 33 5 = true := by decide +kernel
theorem r117_10 : row 1 117 86997 43 4 = true := by decide +kernel
theorem r117_11 : row 0 117 86997 51 5 = true := by decide +kernel
theorem r119_0 : row 6 119 90667 1 1 = true := by decide +kernel
theorem r119_1 : row 6 119 90667 3 1 = true := by decide +kernel
theorem r119_2 : row 5 119 90667 5 1 = true := by decide +kernel
theorem r119_3 : row 5 119 90667 7 1 = true := by decide +kernel
theorem r119_4 : row 4 119 90667 9 1 = true := by decide +kernel
theorem r119_5 : row 4 119 90667 11 2 = true := by decide +kernel
theorem r119_6 : row 4 119 90667 15 2 = true := by decide +kernel
theorem r119_7 : row 3 119 90667 19 2 = true := by decide +kernel
theorem r119_8 : row 3 119 90667 23 2 = true := by decide +kernel
theorem r119_9 : row 3 119 90667 27 1 = true := by decide +kernel
theorem r119_10 : row 2 119 90667 29 2 = true := by decide +kernel
theorem r119_11 : row 2 119 90667 33 3 = true := by decide +kernel
theorem r119_12 : row 1 119 90667 39 3 = true := by decide +kernel
theorem r119_13 : row 0 119 90667 45 5 = true := by decide +kernel
theorem r121_0 : row 6 121 89169 1 1 = true := by decide +kernel
theorem r121_1 : row 6 121 89169 3 1 = true := by decide +kernel
theorem r121_2 : row 5 121 89169 5 1 = true := by decide +kernel
theorem r121_3 : row 5 121 89169 7 1 = true := by decide +kernel
theorem r121_4 : row 4 121 89169 9 2 = true := by decide +kernel
theorem r121_5 : row 4 121 89169 13 1 = true := by decide +kernel
theorem r121_6 : row 4 121 89169 15 2 = true := by decide +kernel
theorem r121_7 : row 3 121 89169 19 1 = true := by decide +kernel
theorem r121_8 : row 3 121 89169 21 1 = true := by decide +kernel
theorem r121_9 : row 3 121 89169 23 3 = true := by decide +kernel
theorem r121_10 : row 3 121 89169 29 1 = true := by decide +kernel
theorem r121_11 : row 2 121 89169 31 3 = true := by decide +kernel
theorem r121_12 : row 2 121 89169 37 1 = true := by decide +kernel
theorem r121_13 : row 1 121 89169 39 4 = true := by decide +kernel
theorem r121_14 : row 0 121 89169 47 4 = true := by decide +kernel
theorem r123_0 : row 6 123 92982 1 2 = true := by decide +kernel
theorem r123_1 : row 5 123 92982 5 2 = true := by decide +kernel
theorem r123_2 : row 4 123 92982 9 2 = true := by decide +kernel
theorem r123_3 : row 4 123 92982 13 2 = true := by decide +kernel
theorem r123_4 : row 3 123 92982 17 3 = true := by decide +kernel
theorem r123_5 : row 3 123 92982 23 2 = true := by decide +kernel
theorem r123_6 : row 2 123 92982 27 5 = true := by decide +kernel
theorem r123_7 : row 1 123 92982 37 3 = true := by decide +kernel
theorem r123_8 : row 0 123 92982 43 4 = true := by decide +kernel
theorem r125_0 : row 6 125 96984 1 1 = true := by decide +kernel
theorem r125_1 : row 6 125 96984 3 1 = true := by decide +kernel
theorem r125_2 : row 5 125 96984 5 2 = true := by decide +kernel
theorem r125_3 : row 4 125 96984 9 1 = true := by decide +kernel
theorem r125_4 : row 4 125 96984 11 1 = true := by decide +kernel
theorem r125_5 : row 4 125 96984 13 2 = true := by decide +kernel
theorem r125_6 : row 3 125 96984 17 2 = true := by decide +kernel
theorem r125_7 : row 3 125 96984 21 1 = true := by decide +kernel
theorem r125_8 : row 3 125 96984 23 1 = true := by decide +kernel
theorem r125_9 : row 2 125 96984 25 4 = true := by decide +kernel
theorem r125_10 : row 1 125 96984 33 3 = true := by decide +kernel
theorem r125_11 : row 0 125 96984 39 3 = true := by decide +kernel
theorem r127_0 : row 6 127 95457 1 1 = true := by decide +kernel
theorem r127_1 : row 6 127 95457 3 1 = true := by decide +kernel
theorem r127_2 : row 5 127 95457 5 1 = true := by decide +kernel
theorem r127_3 : row 5 127 95457 7 1 = true := by decide +kernel
theorem r127_4 : row 4 127 95457 9 2 = true := by decide +kernel
theorem r127_5 : row 4 127 95457 13 1 = true := by decide +kernel
theorem r127_6 : row 4 127 95457 15 1 = true := by decide +kernel
theorem r127_7 : row 3 127 95457 17 1 = true := by decide +kernel
theorem r127_8 : row 3 127 95457 19 3 = true := by decide +kernel
theorem r127_9 : row 3 127 95457 25 1 = true := by decide +kernel
theorem r127_10 : row 2 127 95457 27 2 = true := by decide +kernel
theorem r127_11 : row 2 127 95457 31 1 = true := by decide +kernel
theorem r127_12 : row 1 127 95457 33 3 = true := by decide +kernel
theorem r127_13 : row 0 127 95457 39 4 = true := by decide +kernel
theorem r129_0 : row 6 129 99615 1 1 = true := by decide +kernel
theorem r129_1 : row 6 129 99615 3 1 = true := by decide +kernel
theorem r129_2 : row 5 129 99615 5 1 = true := by decide +kernel
theorem r129_3 : row 5 129 99615 7 1 = true := by decide +kernel
theorem r129_4 : row 4 129 99615 9 3 = true := by decide +kernel
theorem r129_5 : row 3 129 99615 15 4 = true := by decide +kernel
theorem r129_6 : row 3 129 99615 23 1 = true := by decide +kernel
theorem r129_7 : row 2 129 99615 25 3 = true := by decide +kernel
theorem r129_8 : row 1 129 99615 31 2 = true := by decide +kernel
theorem r129_9 : row 0 129 99615 35 3 = true := by decide +kernel
theorem r131_0 : row 6 131 98095 1 1 = true := by decide +kernel
theorem r131_1 : row 6 131 98095 3 1 = true := by decide +kernel
theorem r131_2 : row 5 131 98095 5 1 = true := by decide +kernel
theorem r131_3 : row 5 131 98095 7 1 = true := by decide +kernel
theorem r131_4 : row 4 131 98095 9 1 = true := by decide +kernel
theorem r131_5 : row 4 131 98095 11 1 = true := by decide +kernel
theorem r131_6 : row 4 131 98095 13 1 = true := by decide +kernel
theorem r131_7 : row 3 131 98095 15 1 = true := by decide +kernel
theorem r131_8 : row 3 131 98095 17 2 = true := by decide +kernel
theorem r131_9 : row 3 131 98095 21 1 = true := by decide +kernel
theorem r131_10 : row 3 131 98095 23 1 = true := by decide +kernel
theorem r131_11 : row 2 131 98095 25 3 = true := by decide +kernel
theorem r131_12 : row 1 131 98095 31 3 = true := by decide +kernel
theorem r131_13 : row 0 131 98095 37 3 = true := by decide +kernel
theorem rows5 : Covs ((covt.drop 49).take 16) :=
  ⟨((((((((((((((((((((((((CovY.one 101 75308).step r101_0 rfl rfl).step r101_1 rfl rfl).step r101_2 rfl rfl).step r101_3 rfl rfl).step r101_4 rfl rfl).step r101_5 rfl rfl).step r101_6 rfl rfl).step r101_7 rfl rfl).step r101_8 rfl rfl).step r101_9 rfl rfl).step r101_10 rfl rfl).step r101_11 rfl rfl).step r101_12 rfl rfl).step r101_13 rfl rfl).step r101_14 rfl rfl).step r101_15 rfl rfl).step r101_16 rfl rfl).step r101_17 rfl rfl).step r101_18 rfl rfl).step r101_19 rfl rfl).step r101_20 rfl rfl).step r101_21 rfl rfl).step r101_22 rfl rfl),
  ⟨((((((((((((((((((((((((CovY.one 103 73846).step r103_0 rfl rfl).step r103_1 rfl rfl).step r103_2 rfl rfl).step r103_3 rfl rfl).step r103_4 rfl rfl).step r103_5 rfl rfl).step r103_6 rfl rfl).step r103_7 rfl rfl).step r103_8 rfl rfl).step r103_9 rfl rfl).step r103_10 rfl rfl).step r103_11 rfl rfl).step r103_12 rfl rfl).step r103_13 rfl rfl).step r103_14 rfl rfl).step r103_15 rfl rfl).step r103_16 rfl rfl).step r103_17 rfl rfl).step r103_18 rfl rfl).step r103_19 rfl rfl).step r103_20 rfl rfl).step r103_21 rfl rfl).step r103_22 rfl rfl),
  ⟨((((((((((((CovY.one 105 76785).step r105_0 rfl rfl).step r105_1 rfl rfl).step r105_2 rfl rfl).step r105_3 rfl rfl).step r105_4 rfl rfl).step r105_5 rfl rfl).step r105_6 rfl rfl).step r105_7 rfl rfl).step r105_8 rfl rfl).step r105_9 rfl rfl).step r105_10 rfl rfl),
  ⟨((((((((((((((((((((((CovY.one 107 79871).step r107_0 rfl rfl).step r107_1 rfl rfl).step r107_2 rfl rfl).step r107_3 rfl rfl).step r107_4 rfl rfl).step r107_5 rfl rfl).step r107_6 rfl rfl).step r107_7 rfl rfl).step r107_8 rfl rfl).step r107_9 rfl rfl).step r107_10 rfl rfl).step r107_11 rfl rfl).step r107_12 rfl rfl).step r107_13 rfl rfl).step r107_14 rfl rfl).step r107_15 rfl rfl).step r107_16 rfl rfl).step r107_17 rfl rfl).step r107_18 rfl rfl).step r107_19 rfl rfl).step r107_20 rfl rfl),
  ⟨(((((((((((((((((((((CovY.one 109 83110).step r109_0 rfl rfl).step r109_1 rfl rfl).step r109_2 rfl rfl).step r109_3 rfl rfl).step r109_4 rfl rfl).step r109_5 rfl rfl).step r109_6 rfl rfl).step r109_7 rfl rfl).step r109_8 rfl rfl).step r109_9 rfl rfl).step r109_10 rfl rfl).step r109_11 rfl rfl).step r109_12 rfl rfl).step r109_13 rfl rfl).step r109_14 rfl rfl).step r109_15 rfl rfl).step r109_16 rfl rfl).step r109_17 rfl rfl).step r109_18 rfl rfl).step r109_19 rfl rfl),
  ⟨(((((((((((((((CovY.one 111 81613).step r111_0 rfl rfl).step r111_1 rfl rfl).step r111_2 rfl rfl).step r111_3 rfl rfl).step r111_4 rfl rfl).step r111_5 rfl rfl).step r111_6 rfl rfl).step r111_7 rfl rfl).step r111_8 rfl rfl).step r111_9 rfl rfl).step r111_10 rfl rfl).step r111_11 rfl rfl).step r111_12 rfl rfl).step r111_13 rfl rfl),
  ⟨(((((((((((((((((((CovY.one 113 84978).step r113_0 rfl rfl).step r113_1 rfl rfl).step r113_2 rfl rfl).step r113_3 rfl rfl).step r113_4 rfl rfl).step r113_5 rfl rfl).step r113_6 rfl rfl).step r113_7 rfl rfl).step r113_8 rfl rfl).step r113_9 rfl rfl).step r113_10 rfl rfl).step r113_11 rfl rfl).step r113_12 rfl rfl).step r113_13 rfl rfl).step r113_14 rfl rfl).step r113_15 rfl rfl).step r113_16 rfl rfl).step r113_17 rfl rfl),
  ⟨(((((((((((((((CovY.one 115 88510).step r115_0 rfl rfl).step r115_1 rfl rfl).step r115_2 rfl rfl).step r115_3 rfl rfl).step r115_4 rfl rfl).step r115_5 rfl rfl).step r115_6 rfl rfl).step r115_7 rfl rfl).step r115_8 rfl rfl).step r115_9 rfl rfl).step r115_10 rfl rfl).step r115_11 rfl rfl).step r115_12 rfl rfl).step r115_13 rfl rfl),
  ⟨(((((((((((((CovY.one 117 86997).step r117_0 rfl rfl).step r117_1 rfl rfl).step r117_2 rfl rfl).step r117_3 rfl rfl).step r117_4 rfl rfl).step r117_5 rfl rfl).step r117_6 rfl rfl).step r117_7 rfl rfl).step r117_8 rfl rfl).step r117_9 rfl rfl).step r117_10 rfl rfl).step r117_11 rfl rfl),
  ⟨(((((((((((((((CovY.one 119 90667).step r119_0 rfl rfl).step r119_1 rfl rfl).step r119_2 rfl rfl).step r119_3 rfl rfl).step r119_4 rfl rfl).step r119_5 rfl rfl).step r119_6 rfl rfl).step r119_7 rfl rfl).step r119_8 rfl rfl).step r119_9 rfl rfl).step r119_10 rfl rfl).step r119_11 rfl rfl).step r119_12 rfl rfl).step r119_13 rfl rfl),
  ⟨((((((((((((((((CovY.one 121 89169).step r121_0 rfl rfl).step r121_1 rfl rfl).step r121_2 rfl rfl).step r121_3 rfl rfl).step r121_4 rfl rfl).step r121_5 rfl rfl).step r121_6 rfl rfl).step r121_7 rfl rfl).step r121_8 rfl rfl).step r121_9 rfl rfl).step r121_10 rfl rfl).step r121_11 rfl rfl).step r121_12 rfl rfl).step r121_13 rfl rfl).step r121_14 rfl rfl),
  ⟨((((((((((CovY.one 123 92982).step r123_0 rfl rfl).step r123_1 rfl rfl).step r123_2 rfl rfl).step r123_3 rfl rfl).step r123_4 rfl rfl).step r123_5 rfl rfl).step r123_6 rfl rfl).step r123_7 rfl rfl).step r123_8 rfl rfl),
  ⟨(((((((((((((CovY.one 125 96984).step r125_0 rfl rfl).step r125_1 rfl rfl).step r125_2 rfl rfl).step r125_3 rfl rfl).step r125_4 rfl rfl).step r125_5 rfl rfl).step r125_6 rfl rfl).step r125_7 rfl rfl).step r125_8 rfl rfl).step r125_9 rfl rfl).step r125_10 rfl rfl).step r125_11 rfl rfl),
  ⟨(((((((((((((((CovY.one 127 95457).step r127_0 rfl rfl).step r127_1 rfl rfl).step r127_2 rfl rfl).step r127_3 rfl rfl).step r127_4 rfl rfl).step r127_5 rfl rfl).step r127_6 rfl rfl).step r127_7 rfl rfl).step r127_8 rfl rfl).step r127_9 rfl rfl).step r127_10 rfl rfl).step r127_11 rfl rfl).step r127_12 rfl rfl).step r127_13 rfl rfl),
  ⟨(((((((((((CovY.one 129 99615).step r129_0 rfl rfl).step r129_1 rfl rfl).step r129_2 rfl rfl).step r129_3 rfl rfl).step r129_4 rfl rfl).step r129_5 rfl rfl).step r129_6 rfl rfl).step r129_7 rfl rfl).step r129_8 rfl rfl).step r129_9 rfl rfl),
  ⟨(((((((((((((((CovY.one 131 98095).step r131_0 rfl rfl).step r131_1 rfl rfl).step r131_2 rfl rfl).step r131_3 rfl rfl).step r131_4 rfl rfl).step r131_5 rfl rfl).step r131_6 rfl rfl).step r131_7 rfl rfl).step r131_8 rfl rfl).step r131_9 rfl rfl).step r131_10 rfl rfl).step r131_11 rfl rfl).step r131_12 rfl rfl).step r131_13 rfl rfl), trivial⟩⟩⟩⟩⟩⟩⟩⟩⟩⟩⟩⟩⟩⟩⟩⟩
end Go.Proofs.YtogbdnecpdcmiabDoor.Mr
/- Rows of the sieve for n = p q, checked by the kernel: made by a program (genA.py). -/
namespace Go.Proofs.YtogbdnecpdcmiabDoor.Mr
set_option maxRecDepth 100000
theorem r133_0 : row 6 133 102417 1 1 = true := by decide +kernel
theorem r133_1 : row 5 133 102417 3 1 = true := by decide +kernel
theorem r133_2 : row 5 133 102417 5 2 = true := by decide +kernel
theorem r133_3 : row 4 133 102417 9 1 = true := by decide +kernel
theorem r133_4 : row 4 133 102417 11 1 = true := by decide +kernel
theorem r133_5 : row 4 133 102417 13 1 = true := by decide +kernel
theorem r133_6 : row 3 133 102417 15 4 = true := by decide +kernel
theorem r133_7 : row 2 133 102417 23 3 = true := by decide +kernel
theorem r133_8 : row 1 133 102417 29 2 = true := by decide +kernel
theorem r133_9 : row 0 133 102417 33 3 = true := by decide +kernel
theorem r135_0 : row 6 135 100899 1 1 = true := by decide +kernel
theorem r135_1 : row 5 135 100899 3 3 = true := by decide +kernel
theorem r135_2 : row 4 135 100899 9 3 = true := by decide +kernel
theorem r135_3 : row 3 135 100899 15 4 = true := by decide +kernel
theorem r135_4 : row 2 135 100899 23 3 = true := by decide +kernel
theorem r135_5 : row 1 135 100899 29 2 = true := by decide +kernel
theorem r135_6 : row 0 135 100899 33 3 = true := by decide +kernel
theorem r137_0 : row 6 137 105392 1 1 = true := by decide +kernel
theorem r137_1 : row 5 137 105392 3 1 = true := by decide +kernel
theorem r137_2 : row 5 137 105392 5 1 = true := by decide +kernel
theorem r137_3 : row 4 137 105392 7 1 = true := by decide +kernel
theorem r137_4 : row 4 137 105392 9 1 = true := by decide +kernel
theorem r137_5 : row 4 137 105392 11 1 = true := by decide +kernel
theorem r137_6 : row 4 137 105392 13 1 = true := by decide +kernel
theorem r137_7 : row 3 137 105392 15 1 = true := by decide +kernel
theorem r137_8 : row 3 137 105392 17 1 = true := by decide +kernel
theorem r137_9 : row 3 137 105392 19 1 = true := by decide +kernel
theorem r137_10 : row 2 137 105392 21 3 = true := by decide +kernel
theorem r137_11 : row 1 137 105392 27 2 = true := by decide +kernel
theorem r137_12 : row 0 137 105392 31 2 = true := by decide +kernel
theorem r139_0 : row 6 139 103875 1 1 = true := by decide +kernel
theorem r139_1 : row 5 139 103875 3 1 = true := by decide +kernel
theorem r139_2 : row 5 139 103875 5 1 = true := by decide +kernel
theorem r139_3 : row 4 139 103875 7 1 = true := by decide +kernel
theorem r139_4 : row 4 139 103875 9 1 = true := by decide +kernel
theorem r139_5 : row 4 139 103875 11 1 = true := by decide +kernel
theorem r139_6 : row 4 139 103875 13 1 = true := by decide +kernel
theorem r139_7 : row 3 139 103875 15 2 = true := by decide +kernel
theorem r139_8 : row 3 139 103875 19 1 = true := by decide +kernel
theorem r139_9 : row 2 139 103875 21 3 = true := by decide +kernel
theorem r139_10 : row 1 139 103875 27 2 = true := by decide +kernel
theorem r139_11 : row 0 139 103875 31 2 = true := by decide +kernel
theorem r141_0 : row 6 141 108546 1 1 = true := by decide +kernel
theorem r141_1 : row 5 141 108546 3 1 = true := by decide +kernel
theorem r141_2 : row 5 141 108546 5 1 = true := by decide +kernel
theorem r141_3 : row 4 141 108546 7 3 = true := by decide +kernel
theorem r141_4 : row 3 141 108546 13 3 = true := by decide +kernel
theorem r141_5 : row 2 141 108546 19 3 = true := by decide +kernel
theorem r141_6 : row 1 141 108546 25 2 = true := by decide +kernel
theorem r141_7 : row 0 141 108546 29 2 = true := by decide +kernel
theorem r143_0 : row 6 143 107028 1 1 = true := by decide +kernel
theorem r143_1 : row 5 143 107028 3 1 = true := by decide +kernel
theorem r143_2 : row 5 143 107028 5 1 = true := by decide +kernel
theorem r143_3 : row 4 143 107028 7 3 = true := by decide +kernel
theorem r143_4 : row 3 143 107028 13 3 = true := by decide +kernel
theorem r143_5 : row 2 143 107028 19 2 = true := by decide +kernel
theorem r143_6 : row 2 143 107028 23 1 = true := by decide +kernel
theorem r143_7 : row 1 143 107028 25 2 = true := by decide +kernel
theorem r143_8 : row 0 143 107028 29 2 = true := by decide +kernel
theorem r145_0 : row 6 145 111885 1 1 = true := by decide +kernel
theorem r145_1 : row 5 145 111885 3 2 = true := by decide +kernel
theorem r145_2 : row 4 145 111885 7 1 = true := by decide +kernel
theorem r145_3 : row 4 145 111885 9 1 = true := by decide +kernel
theorem r145_4 : row 4 145 111885 11 1 = true := by decide +kernel
theorem r145_5 : row 3 145 111885 13 3 = true := by decide +kernel
theorem r145_6 : row 2 145 111885 19 2 = true := by decide +kernel
theorem r145_7 : row 1 145 111885 23 2 = true := by decide +kernel
theorem r145_8 : row 0 145 111885 27 1 = true := by decide +kernel
theorem r147_0 : row 6 147 110363 1 1 = true := by decide +kernel
theorem r147_1 : row 5 147 110363 3 2 = true := by decide +kernel
theorem r147_2 : row 4 147 110363 7 3 = true := by decide +kernel
theorem r147_3 : row 3 147 110363 13 3 = true := by decide +kernel
theorem r147_4 : row 2 147 110363 19 2 = true := by decide +kernel
theorem r147_5 : row 1 147 110363 23 2 = true := by decide +kernel
theorem r147_6 : row 0 147 110363 27 2 = true := by decide +kernel
theorem r149_0 : row 6 149 115414 1 1 = true := by decide +kernel
theorem r149_1 : row 5 149 115414 3 1 = true := by decide +kernel
theorem r149_2 : row 5 149 115414 5 1 = true := by decide +kernel
theorem r149_3 : row 4 149 115414 7 1 = true := by decide +kernel
theorem r149_4 : row 4 149 115414 9 1 = true := by decide +kernel
theorem r149_5 : row 3 149 115414 11 3 = true := by decide +kernel
theorem r149_6 : row 2 149 115414 17 1 = true := by decide +kernel
theorem r149_7 : row 2 149 115414 19 1 = true := by decide +kernel
theorem r149_8 : row 1 149 115414 21 1 = true := by decide +kernel
theorem r149_9 : row 0 149 115414 23 2 = true := by decide +kernel
theorem r151_0 : row 6 151 113886 1 1 = true := by decide +kernel
theorem r151_1 : row 5 151 113886 3 1 = true := by decide +kernel
theorem r151_2 : row 5 151 113886 5 1 = true := by decide +kernel
theorem r151_3 : row 4 151 113886 7 2 = true := by decide +kernel
theorem r151_4 : row 3 151 113886 11 1 = true := by decide +kernel
theorem r151_5 : row 3 151 113886 13 2 = true := by decide +kernel
theorem r151_6 : row 2 151 113886 17 2 = true := by decide +kernel
theorem r151_7 : row 1 151 113886 21 2 = true := by decide +kernel
theorem r151_8 : row 0 151 113886 25 1 = true := by decide +kernel
theorem r153_0 : row 6 153 119141 1 1 = true := by decide +kernel
theorem r153_1 : row 5 153 119141 3 2 = true := by decide +kernel
theorem r153_2 : row 4 153 119141 7 2 = true := by decide +kernel
theorem r153_3 : row 3 153 119141 11 1 = true := by decide +kernel
theorem r153_4 : row 3 153 119141 13 1 = true := by decide +kernel
theorem r153_5 : row 2 153 119141 15 2 = true := by decide +kernel
theorem r153_6 : row 1 153 119141 19 2 = true := by decide +kernel
theorem r153_7 : row 0 153 119141 23 1 = true := by decide +kernel
theorem r155_0 : row 6 155 117603 1 1 = true := by decide +kernel
theorem r155_1 : row 5 155 117603 3 1 = true := by decide +kernel
theorem r155_2 : row 5 155 117603 5 1 = true := by decide +kernel
theorem r155_3 : row 4 155 117603 7 1 = true := by decide +kernel
theorem r155_4 : row 4 155 117603 9 1 = true := by decide +kernel
theorem r155_5 : row 3 155 117603 11 2 = true := by decide +kernel
theorem r155_6 : row 2 155 117603 15 2 = true := by decide +kernel
theorem r155_7 : row 1 155 117603 19 2 = true := by decide +kernel
theorem r155_8 : row 0 155 117603 23 1 = true := by decide +kernel
theorem r157_0 : row 6 157 123072 1 1 = true := by decide +kernel
theorem r157_1 : row 5 157 123072 3 1 = true := by decide +kernel
theorem r157_2 : row 5 157 123072 5 1 = true := by decide +kernel
theorem r157_3 : row 4 157 123072 7 1 = true := by decide +kernel
theorem r157_4 : row 4 157 123072 9 1 = true := by decide +kernel
theorem r157_5 : row 3 157 123072 11 2 = true := by decide +kernel
theorem r157_6 : row 2 157 123072 15 2 = true := by decide +kernel
theorem r157_7 : row 1 157 123072 19 1 = true := by decide +kernel
theorem r157_8 : row 0 157 123072 21 1 = true := by decide +kernel
theorem r159_0 : row 6 159 121524 1 1 = true := by decide +kernel
theorem r159_1 : row 5 159 121524 3 1 = true := by decide +kernel
theorem r159_2 : row 5 159 121524 5 1 = true := by decide +kernel
theorem r159_3 : row 4 159 121524 7 2 = true := by decide +kernel
theorem r159_4 : row 3 159 121524 11 2 = true := by decide +kernel
theorem r159_5 : row 2 159 121524 15 2 = true := by decide +kernel
theorem r159_6 : row 1 159 121524 19 1 = true := by decide +kernel
theorem r159_7 : row 0 159 121524 21 1 = true := by decide +kernel
theorem r161_0 : row 6 161 120014 1 1 = true := by decide +kernel
theorem r161_1 : row 5 161 120014 3 1 = true := by decide +kernel
theorem r161_2 : row 5 161 120014 5 1 = true := by decide +kernel
theorem r161_3 : row 4 161 120014 7 2 = true := by decide +kernel
theorem r161_4 : row 3 161 120014 11 1 = true := by decide +kernel
theorem r161_5 : row 3 161 120014 13 1 = true := by decide +kernel
theorem r161_6 : row 2 161 120014 15 2 = true := by decide +kernel
theorem r161_7 : row 1 161 120014 19 1 = true := by decide +kernel
theorem r161_8 : row 0 161 120014 21 1 = true := by decide +kernel
theorem r163_0 : row 6 163 125654 1 1 = true := by decide +kernel
theorem r163_1 : row 5 163 125654 3 1 = true := by decide +kernel
theorem r163_2 : row 4 163 125654 5 1 = true := by decide +kernel
theorem r163_3 : row 4 163 125654 7 1 = true := by decide +kernel
theorem r163_4 : row 3 163 125654 9 1 = true := by decide +kernel
theorem r163_5 : row 3 163 125654 11 1 = true := by decide +kernel
theorem r163_6 : row 2 163 125654 13 2 = true := by decide +kernel
theorem r163_7 : row 1 163 125654 17 1 = true := by decide +kernel
theorem r163_8 : row 0 163 125654 19 1 = true := by decide +kernel
theorem r165_0 : row 6 165 124131 1 1 = true := by decide +kernel
theorem r165_1 : row 5 165 124131 3 1 = true := by decide +kernel
theorem r165_2 : row 4 165 124131 5 2 = true := by decide +kernel
theorem r165_3 : row 3 165 124131 9 2 = true := by decide +kernel
theorem r165_4 : row 2 165 124131 13 2 = true := by decide +kernel
theorem r165_5 : row 1 165 124131 17 1 = true := by decide +kernel
theorem r165_6 : row 0 165 124131 19 1 = true := by decide +kernel
theorem r167_0 : row 6 167 130003 1 1 = true := by decide +kernel
theorem r167_1 : row 5 167 130003 3 1 = true := by decide +kernel
theorem r167_2 : row 4 167 130003 5 1 = true := by decide +kernel
theorem r167_3 : row 4 167 130003 7 1 = true := by decide +kernel
theorem r167_4 : row 3 167 130003 9 1 = true := by decide +kernel
theorem r167_5 : row 3 167 130003 11 1 = true := by decide +kernel
theorem r167_6 : row 2 167 130003 13 1 = true := by decide +kernel
theorem r167_7 : row 1 167 130003 15 1 = true := by decide +kernel
theorem r167_8 : row 0 167 130003 17 1 = true := by decide +kernel
theorem r169_0 : row 6 169 128464 1 1 = true := by decide +kernel
theorem r169_1 : row 5 169 128464 3 1 = true := by decide +kernel
theorem r169_2 : row 4 169 128464 5 1 = true := by decide +kernel
theorem r169_3 : row 4 169 128464 7 1 = true := by decide +kernel
theorem r169_4 : row 3 169 128464 9 2 = true := by decide +kernel
theorem r169_5 : row 2 169 128464 13 1 = true := by decide +kernel
theorem r169_6 : row 1 169 128464 15 1 = true := by decide +kernel
theorem r169_7 : row 0 169 128464 17 1 = true := by decide +kernel
theorem r171_0 : row 6 171 134580 1 1 = true := by decide +kernel
theorem r171_1 : row 5 171 134580 3 1 = true := by decide +kernel
theorem r171_2 : row 4 171 134580 5 2 = true := by decide +kernel
theorem r171_3 : row 3 171 134580 9 1 = true := by decide +kernel
theorem r171_4 : row 2 171 134580 11 2 = true := by decide +kernel
theorem r171_5 : row 1 171 134580 15 1 = true := by decide +kernel
theorem r173_0 : row 6 173 133024 1 1 = true := by decide +kernel
theorem r173_1 : row 5 173 133024 3 1 = true := by decide +kernel
theorem r173_2 : row 4 173 133024 5 1 = true := by decide +kernel
theorem r173_3 : row 4 173 133024 7 1 = true := by decide +kernel
theorem r173_4 : row 3 173 133024 9 1 = true := by decide +kernel
theorem r173_5 : row 2 173 133024 11 2 = true := by decide +kernel
theorem r173_6 : row 1 173 133024 15 1 = true := by decide +kernel
theorem r173_7 : row 0 173 133024 17 1 = true := by decide +kernel
theorem r175_0 : row 6 175 131503 1 1 = true := by decide +kernel
theorem r175_1 : row 5 175 131503 3 1 = true := by decide +kernel
theorem r175_2 : row 4 175 131503 5 2 = true := by decide +kernel
theorem r175_3 : row 3 175 131503 9 2 = true := by decide +kernel
theorem r175_4 : row 2 175 131503 13 1 = true := by decide +kernel
theorem r175_5 : row 1 175 131503 15 1 = true := by decide +kernel
theorem r175_6 : row 0 175 131503 17 1 = true := by decide +kernel
theorem r177_0 : row 6 177 137819 1 1 = true := by decide +kernel
theorem r177_1 : row 5 177 137819 3 1 = true := by decide +kernel
theorem r177_2 : row 4 177 137819 5 1 = true := by decide +kernel
theorem r177_3 : row 4 177 137819 7 1 = true := by decide +kernel
theorem r177_4 : row 3 177 137819 9 1 = true := by decide +kernel
theorem r177_5 : row 2 177 137819 11 1 = true := by decide +kernel
theorem r177_6 : row 1 177 137819 13 1 = true := by decide +kernel
theorem r177_7 : row 0 177 137819 15 1 = true := by decide +kernel
theorem r179_0 : row 6 179 136279 1 1 = true := by decide +kernel
theorem r179_1 : row 5 179 136279 3 1 = true := by decide +kernel
theorem r179_2 : row 4 179 136279 5 1 = true := by decide +kernel
theorem r179_3 : row 4 179 136279 7 1 = true := by decide +kernel
theorem r179_4 : row 3 179 136279 9 1 = true := by decide +kernel
theorem r179_5 : row 2 179 136279 11 1 = true := by decide +kernel
theorem r179_6 : row 1 179 136279 13 1 = true := by decide +kernel
theorem r179_7 : row 0 179 136279 15 1 = true := by decide +kernel
theorem r181_0 : row 6 181 134773 1 1 = true := by decide +kernel
theorem r181_1 : row 5 181 134773 3 1 = true := by decide +kernel
theorem r181_2 : row 4 181 134773 5 1 = true := by decide +kernel
theorem r181_3 : row 4 181 134773 7 1 = true := by decide +kernel
theorem r181_4 : row 3 181 134773 9 1 = true := by decide +kernel
theorem r181_5 : row 2 181 134773 11 1 = true := by decide +kernel
theorem r181_6 : row 1 181 134773 13 1 = true := by decide +kernel
theorem r181_7 : row 0 181 134773 15 1 = true := by decide +kernel
theorem r183_0 : row 6 183 141298 1 1 = true := by decide +kernel
theorem r183_1 : row 5 183 141298 3 1 = true := by decide +kernel
theorem r183_2 : row 4 183 141298 5 1 = true := by decide +kernel
theorem r183_3 : row 3 183 141298 7 2 = true := by decide +kernel
theorem r183_4 : row 2 183 141298 11 1 = true := by decide +kernel
theorem r183_5 : row 0 183 141298 13 1 = true := by decide +kernel
theorem r185_0 : row 6 185 139770 1 1 = true := by decide +kernel
theorem r185_1 : row 5 185 139770 3 1 = true := by decide +kernel
theorem r185_2 : row 4 185 139770 5 1 = true := by decide +kernel
theorem r185_3 : row 3 185 139770 7 2 = true := by decide +kernel
theorem r185_4 : row 2 185 139770 11 1 = true := by decide +kernel
theorem r185_5 : row 0 185 139770 13 1 = true := by decide +kernel
theorem r187_0 : row 6 187 146572 1 1 = true := by decide +kernel
theorem r187_1 : row 5 187 146572 3 1 = true := by decide +kernel
theorem r187_2 : row 4 187 146572 5 1 = true := by decide +kernel
theorem r187_3 : row 3 187 146572 7 1 = true := by decide +kernel
theorem r187_4 : row 2 187 146572 9 1 = true := by decide +kernel
theorem r187_5 : row 1 187 146572 11 1 = true := by decide +kernel
theorem r187_6 : row 0 187 146572 13 1 = true := by decide +kernel
theorem r189_0 : row 6 189 145021 1 1 = true := by decide +kernel
theorem r189_1 : row 5 189 145021 3 1 = true := by decide +kernel
theorem r189_2 : row 4 189 145021 5 1 = true := by decide +kernel
theorem r189_3 : row 3 189 145021 7 1 = true := by decide +kernel
theorem r189_4 : row 2 189 145021 9 1 = true := by decide +kernel
theorem r189_5 : row 1 189 145021 11 1 = true := by decide +kernel
theorem r189_6 : row 0 189 145021 13 1 = true := by decide +kernel
theorem r191_0 : row 6 191 143503 1 1 = true := by decide +kernel
theorem r191_1 : row 5 191 143503 3 1 = true := by decide +kernel
theorem r191_2 : row 4 191 143503 5 1 = true := by decide +kernel
theorem r191_3 : row 3 191 143503 7 1 = true := by decide +kernel
theorem r191_4 : row 2 191 143503 9 1 = true := by decide +kernel
theorem r191_5 : row 1 191 143503 11 1 = true := by decide +kernel
theorem r191_6 : row 0 191 143503 13 1 = true := by decide +kernel
theorem r193_0 : row 6 193 150536 1 1 = true := by decide +kernel
theorem r193_1 : row 5 193 150536 3 1 = true := by decide +kernel
theorem r193_2 : row 4 193 150536 5 1 = true := by decide +kernel
theorem r193_3 : row 3 193 150536 7 1 = true := by decide +kernel
theorem r193_4 : row 2 193 150536 9 1 = true := by decide +kernel
theorem r193_5 : row 0 193 150536 11 1 = true := by decide +kernel
theorem r195_0 : row 6 195 148992 1 1 = true := by decide +kernel
theorem r195_1 : row 5 195 148992 3 1 = true := by decide +kernel
theorem r195_2 : row 4 195 148992 5 1 = true := by decide +kernel
theorem r195_3 : row 3 195 148992 7 1 = true := by decide +kernel
theorem r195_4 : row 2 195 148992 9 1 = true := by decide +kernel
theorem r195_5 : row 0 195 148992 11 1 = true := by decide +kernel
theorem r197_0 : row 6 197 147480 1 1 = true := by decide +kernel
theorem r197_1 : row 5 197 147480 3 1 = true := by decide +kernel
theorem r197_2 : row 4 197 147480 5 1 = true := by decide +kernel
theorem r197_3 : row 3 197 147480 7 1 = true := by decide +kernel
theorem r197_4 : row 2 197 147480 9 1 = true := by decide +kernel
theorem r197_5 : row 0 197 147480 11 1 = true := by decide +kernel
theorem r199_0 : row 6 199 154758 1 1 = true := by decide +kernel
theorem r199_1 : row 5 199 154758 3 1 = true := by decide +kernel
theorem r199_2 : row 4 199 154758 5 1 = true := by decide +kernel
theorem r199_3 : row 3 199 154758 7 1 = true := by decide +kernel
theorem r199_4 : row 1 199 154758 9 1 = true := by decide +kernel
theorem r201_0 : row 6 201 153218 1 1 = true := by decide +kernel
theorem r201_1 : row 5 201 153218 3 1 = true := by decide +kernel
theorem r201_2 : row 4 201 153218 5 1 = true := by decide +kernel
theorem r201_3 : row 3 201 153218 7 1 = true := by decide +kernel
theorem r201_4 : row 2 201 153218 9 1 = true := by decide +kernel
theorem r201_5 : row 0 201 153218 11 1 = true := by decide +kernel
theorem r203_0 : row 6 203 151708 1 1 = true := by decide +kernel
theorem r203_1 : row 5 203 151708 3 1 = true := by decide +kernel
theorem r203_2 : row 4 203 151708 5 1 = true := by decide +kernel
theorem r203_3 : row 3 203 151708 7 1 = true := by decide +kernel
theorem r203_4 : row 2 203 151708 9 1 = true := by decide +kernel
theorem r203_5 : row 0 203 151708 11 1 = true := by decide +kernel
theorem rows6 : Covs ((covt.drop 65).take 36) :=
  ⟨(((((((((((CovY.one 133 102417).step r133_0 rfl rfl).step r133_1 rfl rfl).step r133_2 rfl rfl).step r133_3 rfl rfl).step r133_4 rfl rfl).step r133_5 rfl rfl).step r133_6 rfl rfl).step r133_7 rfl rfl).step r133_8 rfl rfl).step r133_9 rfl rfl),
  ⟨((((((((CovY.one 135 100899).step r135_0 rfl rfl).step r135_1 rfl rfl).step r135_2 rfl rfl).step r135_3 rfl rfl).step r135_4 rfl rfl).step r135_5 rfl rfl).step r135_6 rfl rfl),
  ⟨((((((((((((((CovY.one 137 105392).step r137_0 rfl rfl).step r137_1 rfl rfl).step r137_2 rfl rfl).step r137_3 rfl rfl).step r137_4 rfl rfl).step r137_5 rfl rfl).step r137_6 rfl rfl).step r137_7 rfl rfl).step r137_8 rfl rfl).step r137_9 rfl rfl).step r137_10 rfl rfl).step r137_11 rfl rfl).step r137_12 rfl rfl),
  ⟨(((((((((((((CovY.one 139 103875).step r139_0 rfl rfl).step r139_1 rfl rfl).step r139_2 rfl rfl).step r139_3 rfl rfl).step r139_4 rfl rfl).step r139_5 rfl rfl).step r139_6 rfl rfl).step r139_7 rfl rfl).step r139_8 rfl rfl).step r139_9 rfl rfl).step r139_10 rfl rfl).step r139_11 rfl rfl),
  ⟨(((((((((CovY.one 141 108546).step r141_0 rfl rfl).step r141_1 rfl rfl).step r141_2 rfl rfl).step r141_3 rfl rfl).step r141_4 rfl rfl).step r141_5 rfl rfl).step r141_6 rfl rfl).step r141_7 rfl rfl),
  ⟨((((((((((CovY.one 143 107028).step r143_0 rfl rfl).step r143_1 rfl rfl).step r143_2 rfl rfl).step r143_3 rfl rfl).step r143_4 rfl rfl).step r143_5 rfl rfl).step r143_6 rfl rfl).step r143_7 rfl rfl).step r143_8 rfl rfl),
  ⟨((((((((((CovY.one 145 111885).step r145_0 rfl rfl).step r145_1 rfl rfl).step r145_2 rfl rfl).step r145_3 rfl rfl).step r145_4 rfl rfl).step r145_5 rfl rfl).step r145_6 rfl rfl).step r145_7 rfl rfl).step r145_8 rfl rfl),
  ⟨((((((((CovY.one 147 110363).step r147_0 rfl rfl).step r147_1 rfl rfl).step r147_2 rfl rfl).step r147_3 rfl rfl).step r147_4 rfl rfl).step r147_5 rfl rfl).step r147_6 rfl rfl),
  ⟨(((((((((((CovY.one 149 115414).step r149_0 rfl rfl).step r149_1 rfl rfl).step r149_2 rfl rfl).step r149_3 rfl rfl).step r149_4 rfl rfl).step r149_5 rfl rfl).step r149_6 rfl rfl).step r149_7 rfl rfl).step r149_8 rfl rfl).step r149_9 rfl rfl),
  ⟨((((((((((CovY.one 151 113886).step r151_0 rfl rfl).step r151_1 rfl rfl).step r151_2 rfl rfl).step r151_3 rfl rfl).step r151_4 rfl rfl).step r151_5 rfl rfl).step r151_6 rfl rfl).step r151_7 rfl rfl).step r151_8 rfl rfl),
  ⟨(((((((((CovY.one 153 119141).step r153_0 rfl rfl).step r153_1 rfl rfl).step r153_2 rfl rfl).step r153_3 rfl rfl).step r153_4 rfl rfl).step r153_5 rfl rfl).step r153_6 rfl rfl).step r153_7 rfl rfl),
  ⟨((((((((((CovY.one 155 117603).step r155_0 rfl rfl).step r155_1 rfl rfl).step r155_2 rfl rfl).step r155_3 rfl rfl).step r155_4 rfl rfl).step r155_5 rfl rfl).step r155_6 rfl rfl).step r155_7 rfl rfl).step r155_8 rfl rfl),
  ⟨((((((((((CovY.one 157 123072).step r157_0 rfl rfl).step r157_1 rfl rfl).step r157_2 rfl rfl).step r157_3 rfl rfl).step r157_4 rfl rfl).step r157_5 rfl rfl).step r157_6 rfl rfl).step r157_7 rfl rfl).step r157_8 rfl rfl),
  ⟨(((((((((CovY.one 159 121524).step r159_0 rfl rfl).step r159_1 rfl rfl).step r159_2 rfl rfl).step r159_3 rfl rfl).step r159_4 rfl rfl).step r159_5 rfl rfl).step r159_6 rfl rfl).step r159_7 rfl rfl),
  ⟨((((((((((CovY.one 161 120014).step r161_0 rfl rfl).step r161_1 rfl rfl).step r161_2 rfl rfl).step r161_3 rfl rfl).step r161_4 rfl rfl).step r161_5 rfl rfl).step r161_6 rfl rfl).step r161_7 rfl rfl).step r161_8 rfl rfl),
  ⟨((((((((((CovY.one 163 125654).step r163_0 rfl rfl).step r163_1 rfl rfl).step r163_2 rfl rfl).step r163_3 rfl rfl).step r163_4 rfl rfl).step r163_5 rfl rfl).step r163_6 rfl rfl).step r163_7 rfl rfl).step r163_8 rfl rfl),
  ⟨((((((((CovY.one 165 124131).step r165_0 rfl rfl).step r165_1 rfl rfl).step r165_2 rfl rfl).step r165_3 rfl rfl).step r165_4 rfl rfl).step r165_5 rfl rfl).step r165_6 rfl rfl),
  ⟨((((((((((CovY.one 167 130003).step r167_0 rfl rfl).step r167_1 rfl rfl).step r167_2 rfl rfl).step r167_3 rfl rfl).step r167_4 rfl rfl).step r167_5 rfl rfl).step r167_6 rfl rfl).step r167_7 rfl rfl).step r167_8 rfl rfl),
  ⟨(((((((((CovY.one 169 128464).step r169_0 rfl rfl).step r169_1 rfl rfl).step r169_2 rfl rfl).step r169_3 rfl rfl).step r169_4 rfl rfl).step r169_5 rfl rfl).step r169_6 rfl rfl).step r169_7 rfl rfl),
  ⟨(((((((CovY.one 171 134580).step r171_0 rfl rfl).step r171_1 rfl rfl).step r171_2 rfl rfl).step r171_3 rfl rfl).step r171_4 rfl rfl).step r171_5 rfl rfl),
  ⟨(((((((((CovY.one 173 133024).step r173_0 rfl rfl).step r173_1 rfl rfl).step r173_2 rfl rfl).step r173_3 rfl rfl).step r173_4 rfl rfl).step r173_5 rfl rfl).step r173_6 rfl rfl).step r173_7 rfl rfl),
  ⟨((((((((CovY.one 175 131503).step r175_0 rfl rfl).step r175_1 rfl rfl).step r175_2 rfl rfl).step r175_3 rfl rfl).step r175_4 rfl rfl).step r175_5 rfl rfl).step r175_6 rfl rfl),
  ⟨(((((((((CovY.one 177 137819).step r177_0 rfl rfl).step r177_1 rfl rfl).step r177_2 rfl rfl).step r177_3 rfl rfl).step r177_4 rfl rfl).step r177_5 rfl rfl).step r177_6 rfl rfl).step r177_7 rfl rfl),
  ⟨(((((((((CovY.one 179 136279).step r179_0 rfl rfl).step r179_1 rfl rfl).step r179_2 rfl rfl).step r179_3 rfl rfl).step r179_4 rfl rfl).step r179_5 rfl rfl).step r179_6 rfl rfl).step r179_7 rfl rfl),
  ⟨(((((((((CovY.one 181 134773).step r181_0 rfl rfl).step r181_1 rfl rfl).step r181_2 rfl rfl).step r181_3 rfl rfl).step r181_4 rfl rfl).step r181_5 rfl rfl).step r181_6 rfl rfl).step r181_7 rfl rfl),
  ⟨(((((((CovY.one 183 141298).step r183_0 rfl rfl).step r183_1 rfl rfl).step r183_2 rfl rfl).step r183_3 rfl rfl).step r183_4 rfl rfl).step r183_5 rfl rfl),
  ⟨(((((((CovY.one 185 139770).step r185_0 rfl rfl).step r185_1 rfl rfl).step r185_2 rfl rfl).step r185_3 rfl rfl).step r185_4 rfl rfl).step r185_5 rfl rfl),
  ⟨((((((((CovY.one 187 146572).step r187_0 rfl rfl).step r187_1 rfl rfl).step r187_2 rfl rfl).step r187_3 rfl rfl).step r187_4 rfl rfl).step r187_5 rfl rfl).step r187_6 rfl rfl),
  ⟨((((((((CovY.one 189 145021).step r189_0 rfl rfl).step r189_1 rfl rfl).step r189_2 rfl rfl).step r189_3 rfl rfl).step r189_4 rfl rfl).step r189_5 rfl rfl).step r189_6 rfl rfl),
  ⟨((((((((CovY.one 191 143503).step r191_0 rfl rfl).step r191_1 rfl rfl).step r191_2 rfl rfl).step r191_3 rfl rfl).step r191_4 rfl rfl).step r191_5 rfl rfl).step r191_6 rfl rfl),
  ⟨(((((((CovY.one 193 150536).step r193_0 rfl rfl).step r193_1 rfl rfl).step r193_2 rfl rfl).step r193_3 rfl rfl).step r193_4 rfl rfl).step r193_5 rfl rfl),
  ⟨(((((((CovY.one 195 148992).step r195_0 rfl rfl).step r195_1 rfl rfl).step r195_2 rfl rfl).step r195_3 rfl rfl).step r195_4 rfl rfl).step r195_5 rfl rfl),
  ⟨(((((((CovY.one 197 147480).step r197_0 rfl rfl).step r197_1 rfl rfl).step r197_2 rfl rfl).step r197_3 rfl rfl).step r197_4 rfl rfl).step r197_5 rfl rfl),
  ⟨((((((CovY.one 199 154758).step r199_0 rfl rfl).step r199_1 rfl rfl).step r199_2 rfl rfl).step r199_3 rfl rfl).step r199_4 rfl rfl),
  ⟨(((((((CovY.one 201 153218).step r201_0 rfl rfl).step r201_1 rfl rfl).step r201_2 rfl rfl).step r201_3 rfl rfl).step r201_4 rfl rfl).step r201_5 rfl rfl),
  ⟨(((((((CovY.one 203 151708).step r203_0 rfl rfl).step r203_1 rfl rfl).step r203_2 rfl rfl).step r203_3 rfl rfl).step r203_4 rfl rfl).step r203_5 rfl rfl), trivial⟩⟩⟩⟩⟩⟩⟩⟩⟩⟩⟩⟩⟩⟩⟩⟩⟩⟩⟩⟩⟩⟩⟩⟩⟩⟩⟩⟩⟩⟩⟩⟩⟩⟩⟩⟩
end Go.Proofs.YtogbdnecpdcmiabDoor.Mr
/- Rows of the sieve for n = p q, checked by the kernel: made by a program (genA.py). -/
namespace Go.Proofs.YtogbdnecpdcmiabDoor.Mr
set_option maxRecDepth 100000
theorem r205_0 : row 6 205 159242 1 1 = true := by decide +kernel
theorem r205_1 : row 5 205 159242 3 1 = true := by decide +kernel
theorem r205_2 : row 4 205 159242 5 1 = true := by decide +kernel
theorem r205_3 : row 2 205 159242 7 1 = true := by decide +kernel
theorem r205_4 : row 1 205 159242 9 1 = true := by decide +kernel
theorem r207_0 : row 6 207 157703 1 1 = true := by decide +kernel
theorem r207_1 : row 5 207 157703 3 1 = true := by decide +kernel
theorem r207_2 : row 4 207 157703 5 1 = true := by decide +kernel
theorem r207_3 : row 2 207 157703 7 1 = true := by decide +kernel
theorem r207_4 : row 1 207 157703 9 1 = true := by decide +kernel
theorem r209_0 : row 6 209 156194 1 1 = true := by decide +kernel
theorem r209_1 : row 5 209 156194 3 1 = true := by decide +kernel
theorem r209_2 : row 4 209 156194 5 1 = true := by decide +kernel
theorem r209_3 : row 3 209 156194 7 1 = true := by decide +kernel
theorem r209_4 : row 1 209 156194 9 1 = true := by decide +kernel
theorem r211_0 : row 6 211 154713 1 1 = true := by decide +kernel
theorem r211_1 : row 5 211 154713 3 1 = true := by decide +kernel
theorem r211_2 : row 4 211 154713 5 1 = true := by decide +kernel
theorem r211_3 : row 3 211 154713 7 1 = true := by decide +kernel
theorem r211_4 : row 1 211 154713 9 1 = true := by decide +kernel
theorem r213_0 : row 6 213 162456 1 1 = true := by decide +kernel
theorem r213_1 : row 4 213 162456 3 1 = true := by decide +kernel
theorem r213_2 : row 3 213 162456 5 1 = true := by decide +kernel
theorem r213_3 : row 2 213 162456 7 1 = true := by decide +kernel
theorem r213_4 : row 0 213 162456 9 1 = true := by decide +kernel
theorem r215_0 : row 6 215 160945 1 1 = true := by decide +kernel
theorem r215_1 : row 4 215 160945 3 1 = true := by decide +kernel
theorem r215_2 : row 3 215 160945 5 1 = true := by decide +kernel
theorem r215_3 : row 2 215 160945 7 1 = true := by decide +kernel
theorem r215_4 : row 0 215 160945 9 1 = true := by decide +kernel
theorem r217_0 : row 6 217 159462 1 1 = true := by decide +kernel
theorem r217_1 : row 4 217 159462 3 1 = true := by decide +kernel
theorem r217_2 : row 3 217 159462 5 1 = true := by decide +kernel
theorem r217_3 : row 2 217 159462 7 1 = true := by decide +kernel
theorem r217_4 : row 0 217 159462 9 1 = true := by decide +kernel
theorem r219_0 : row 6 219 167486 1 1 = true := by decide +kernel
theorem r219_1 : row 4 219 167486 3 1 = true := by decide +kernel
theorem r219_2 : row 3 219 167486 5 1 = true := by decide +kernel
theorem r219_3 : row 2 219 167486 7 1 = true := by decide +kernel
theorem r221_0 : row 6 221 165970 1 1 = true := by decide +kernel
theorem r221_1 : row 4 221 165970 3 1 = true := by decide +kernel
theorem r221_2 : row 3 221 165970 5 1 = true := by decide +kernel
theorem r221_3 : row 2 221 165970 7 1 = true := by decide +kernel
theorem r223_0 : row 6 223 164482 1 1 = true := by decide +kernel
theorem r223_1 : row 4 223 164482 3 1 = true := by decide +kernel
theorem r223_2 : row 3 223 164482 5 1 = true := by decide +kernel
theorem r223_3 : row 2 223 164482 7 1 = true := by decide +kernel
theorem r225_0 : row 6 225 163020 1 1 = true := by decide +kernel
theorem r225_1 : row 4 225 163020 3 1 = true := by decide +kernel
theorem r225_2 : row 3 225 163020 5 1 = true := by decide +kernel
theorem r225_3 : row 2 225 163020 7 1 = true := by decide +kernel
theorem r227_0 : row 6 227 171278 1 1 = true := by decide +kernel
theorem r227_1 : row 4 227 171278 3 1 = true := by decide +kernel
theorem r227_2 : row 3 227 171278 5 1 = true := by decide +kernel
theorem r227_3 : row 1 227 171278 7 1 = true := by decide +kernel
theorem r229_0 : row 6 229 169782 1 1 = true := by decide +kernel
theorem r229_1 : row 4 229 169782 3 1 = true := by decide +kernel
theorem r229_2 : row 3 229 169782 5 1 = true := by decide +kernel
theorem r229_3 : row 1 229 169782 7 1 = true := by decide +kernel
theorem r231_0 : row 6 231 168313 1 1 = true := by decide +kernel
theorem r231_1 : row 4 231 168313 3 1 = true := by decide +kernel
theorem r231_2 : row 3 231 168313 5 1 = true := by decide +kernel
theorem r231_3 : row 1 231 168313 7 1 = true := by decide +kernel
theorem r233_0 : row 6 233 176880 1 1 = true := by decide +kernel
theorem r233_1 : row 4 233 176880 3 1 = true := by decide +kernel
theorem r233_2 : row 3 233 176880 5 1 = true := by decide +kernel
theorem r233_3 : row 0 233 176880 7 1 = true := by decide +kernel
theorem r235_0 : row 6 235 175374 1 1 = true := by decide +kernel
theorem r235_1 : row 4 235 175374 3 1 = true := by decide +kernel
theorem r235_2 : row 3 235 175374 5 1 = true := by decide +kernel
theorem r235_3 : row 0 235 175374 7 1 = true := by decide +kernel
theorem r237_0 : row 6 237 173895 1 1 = true := by decide +kernel
theorem r237_1 : row 4 237 173895 3 1 = true := by decide +kernel
theorem r237_2 : row 3 237 173895 5 1 = true := by decide +kernel
theorem r237_3 : row 0 237 173895 7 1 = true := by decide +kernel
theorem r239_0 : row 6 239 172439 1 1 = true := by decide +kernel
theorem r239_1 : row 4 239 172439 3 1 = true := by decide +kernel
theorem r239_2 : row 3 239 172439 5 1 = true := by decide +kernel
theorem r239_3 : row 0 239 172439 7 1 = true := by decide +kernel
theorem r241_0 : row 6 241 181269 1 1 = true := by decide +kernel
theorem r241_1 : row 4 241 181269 3 1 = true := by decide +kernel
theorem r241_2 : row 2 241 181269 5 1 = true := by decide +kernel
theorem r243_0 : row 6 243 179777 1 1 = true := by decide +kernel
theorem r243_1 : row 4 243 179777 3 1 = true := by decide +kernel
theorem r243_2 : row 2 243 179777 5 1 = true := by decide +kernel
theorem r245_0 : row 6 245 178309 1 1 = true := by decide +kernel
theorem r245_1 : row 4 245 178309 3 1 = true := by decide +kernel
theorem r245_2 : row 2 245 178309 5 1 = true := by decide +kernel
theorem r247_0 : row 6 247 176866 1 1 = true := by decide +kernel
theorem r247_1 : row 4 247 176866 3 1 = true := by decide +kernel
theorem r247_2 : row 2 247 176866 5 1 = true := by decide +kernel
theorem r249_0 : row 6 249 185972 1 1 = true := by decide +kernel
theorem r249_1 : row 4 249 185972 3 1 = true := by decide +kernel
theorem r249_2 : row 2 249 185972 5 1 = true := by decide +kernel
theorem r251_0 : row 6 251 184490 1 1 = true := by decide +kernel
theorem r251_1 : row 4 251 184490 3 1 = true := by decide +kernel
theorem r251_2 : row 2 251 184490 5 1 = true := by decide +kernel
theorem r253_0 : row 6 253 183031 1 1 = true := by decide +kernel
theorem r253_1 : row 4 253 183031 3 1 = true := by decide +kernel
theorem r253_2 : row 2 253 183031 5 1 = true := by decide +kernel
theorem r255_0 : row 6 255 181596 1 1 = true := by decide +kernel
theorem r255_1 : row 4 255 181596 3 1 = true := by decide +kernel
theorem r255_2 : row 2 255 181596 5 1 = true := by decide +kernel
theorem r257_0 : row 5 257 190994 1 1 = true := by decide +kernel
theorem r257_1 : row 4 257 190994 3 1 = true := by decide +kernel
theorem r257_2 : row 1 257 190994 5 1 = true := by decide +kernel
theorem r259_0 : row 5 259 189519 1 1 = true := by decide +kernel
theorem r259_1 : row 4 259 189519 3 1 = true := by decide +kernel
theorem r259_2 : row 1 259 189519 5 1 = true := by decide +kernel
theorem r261_0 : row 5 261 188067 1 1 = true := by decide +kernel
theorem r261_1 : row 4 261 188067 3 1 = true := by decide +kernel
theorem r261_2 : row 1 261 188067 5 1 = true := by decide +kernel
theorem r263_0 : row 5 263 186636 1 1 = true := by decide +kernel
theorem r263_1 : row 4 263 186636 3 1 = true := by decide +kernel
theorem r263_2 : row 1 263 186636 5 1 = true := by decide +kernel
theorem r265_0 : row 5 265 196341 1 1 = true := by decide +kernel
theorem r265_1 : row 3 265 196341 3 1 = true := by decide +kernel
theorem r265_2 : row 0 265 196341 5 1 = true := by decide +kernel
theorem r267_0 : row 5 267 194871 1 1 = true := by decide +kernel
theorem r267_1 : row 3 267 194871 3 1 = true := by decide +kernel
theorem r267_2 : row 0 267 194871 5 1 = true := by decide +kernel
theorem r269_0 : row 5 269 193422 1 1 = true := by decide +kernel
theorem r269_1 : row 3 269 193422 3 1 = true := by decide +kernel
theorem r269_2 : row 0 269 193422 5 1 = true := by decide +kernel
theorem r271_0 : row 5 271 191994 1 1 = true := by decide +kernel
theorem r271_1 : row 3 271 191994 3 1 = true := by decide +kernel
theorem r271_2 : row 0 271 191994 5 1 = true := by decide +kernel
theorem r273_0 : row 5 273 190588 1 1 = true := by decide +kernel
theorem r273_1 : row 3 273 190588 3 1 = true := by decide +kernel
theorem r273_2 : row 0 273 190588 5 1 = true := by decide +kernel
theorem r275_0 : row 5 275 200554 1 1 = true := by decide +kernel
theorem r275_1 : row 3 275 200554 3 1 = true := by decide +kernel
theorem r277_0 : row 5 277 199106 1 1 = true := by decide +kernel
theorem r277_1 : row 3 277 199106 3 1 = true := by decide +kernel
theorem r279_0 : row 5 279 197679 1 1 = true := by decide +kernel
theorem r279_1 : row 3 279 197679 3 1 = true := by decide +kernel
theorem r281_0 : row 5 281 196272 1 1 = true := by decide +kernel
theorem r281_1 : row 3 281 196272 3 1 = true := by decide +kernel
theorem r283_0 : row 5 283 206578 1 1 = true := by decide +kernel
theorem r283_1 : row 3 283 206578 3 1 = true := by decide +kernel
theorem r285_0 : row 5 285 205128 1 1 = true := by decide +kernel
theorem r285_1 : row 3 285 205128 3 1 = true := by decide +kernel
theorem r287_0 : row 5 287 203698 1 1 = true := by decide +kernel
theorem r287_1 : row 3 287 203698 3 1 = true := by decide +kernel
theorem r289_0 : row 5 289 202289 1 1 = true := by decide +kernel
theorem r289_1 : row 3 289 202289 3 1 = true := by decide +kernel
theorem r291_0 : row 5 291 200898 1 1 = true := by decide +kernel
theorem r291_1 : row 3 291 200898 3 1 = true := by decide +kernel
theorem r293_0 : row 5 293 211499 1 1 = true := by decide +kernel
theorem r293_1 : row 2 293 211499 3 1 = true := by decide +kernel
theorem r295_0 : row 5 295 210065 1 1 = true := by decide +kernel
theorem r295_1 : row 3 295 210065 3 1 = true := by decide +kernel
theorem r297_0 : row 5 297 208650 1 1 = true := by decide +kernel
theorem r297_1 : row 3 297 208650 3 1 = true := by decide +kernel
theorem r299_0 : row 5 299 207255 1 1 = true := by decide +kernel
theorem r299_1 : row 3 299 207255 3 1 = true := by decide +kernel
theorem r301_0 : row 5 301 205878 1 1 = true := by decide +kernel
theorem r301_1 : row 3 301 205878 3 1 = true := by decide +kernel
theorem r303_0 : row 5 303 216790 1 1 = true := by decide +kernel
theorem r303_1 : row 2 303 216790 3 1 = true := by decide +kernel
theorem r305_0 : row 5 305 215368 1 1 = true := by decide +kernel
theorem r305_1 : row 2 305 215368 3 1 = true := by decide +kernel
theorem r307_0 : row 5 307 213965 1 1 = true := by decide +kernel
theorem r307_1 : row 2 307 213965 3 1 = true := by decide +kernel
theorem r309_0 : row 5 309 212580 1 1 = true := by decide +kernel
theorem r309_1 : row 2 309 212580 3 1 = true := by decide +kernel
theorem r311_0 : row 5 311 211213 1 1 = true := by decide +kernel
theorem r311_1 : row 2 311 211213 3 1 = true := by decide +kernel
theorem r313_0 : row 5 313 222455 1 1 = true := by decide +kernel
theorem r313_1 : row 1 313 222455 3 1 = true := by decide +kernel
theorem r315_0 : row 5 315 221043 1 1 = true := by decide +kernel
theorem r315_1 : row 1 315 221043 3 1 = true := by decide +kernel
theorem r317_0 : row 5 317 219648 1 1 = true := by decide +kernel
theorem r317_1 : row 1 317 219648 3 1 = true := by decide +kernel
theorem r319_0 : row 5 319 218271 1 1 = true := by decide +kernel
theorem r319_1 : row 1 319 218271 3 1 = true := by decide +kernel
theorem r321_0 : row 5 321 216911 1 1 = true := by decide +kernel
theorem r321_1 : row 1 321 216911 3 1 = true := by decide +kernel
theorem r323_0 : row 5 323 215568 1 1 = true := by decide +kernel
theorem r323_1 : row 2 323 215568 3 1 = true := by decide +kernel
theorem r325_0 : row 5 325 227096 1 1 = true := by decide +kernel
theorem r325_1 : row 0 325 227096 3 1 = true := by decide +kernel
theorem r327_0 : row 5 327 225707 1 1 = true := by decide +kernel
theorem r327_1 : row 0 327 225707 3 1 = true := by decide +kernel
theorem r329_0 : row 5 329 224335 1 1 = true := by decide +kernel
theorem r329_1 : row 0 329 224335 3 1 = true := by decide +kernel
theorem r331_0 : row 5 331 222980 1 1 = true := by decide +kernel
theorem r331_1 : row 0 331 222980 3 1 = true := by decide +kernel
theorem r333_0 : row 5 333 221640 1 1 = true := by decide +kernel
theorem r333_1 : row 0 333 221640 3 1 = true := by decide +kernel
theorem r335_0 : row 5 335 220317 1 1 = true := by decide +kernel
theorem r335_1 : row 0 335 220317 3 1 = true := by decide +kernel
theorem r337_0 : row 5 337 232150 1 1 = true := by decide +kernel
theorem r339_0 : row 5 339 230781 1 1 = true := by decide +kernel
theorem r341_0 : row 5 341 229427 1 1 = true := by decide +kernel
theorem r343_0 : row 5 343 228089 1 1 = true := by decide +kernel
theorem r345_0 : row 5 345 226767 1 1 = true := by decide +kernel
theorem r347_0 : row 5 347 238988 1 1 = true := by decide +kernel
theorem r349_0 : row 5 349 237618 1 1 = true := by decide +kernel
theorem r351_0 : row 5 351 236264 1 1 = true := by decide +kernel
theorem r353_0 : row 5 353 234926 1 1 = true := by decide +kernel
theorem r355_0 : row 5 355 233602 1 1 = true := by decide +kernel
theorem r357_0 : row 5 357 232293 1 1 = true := by decide +kernel
theorem r359_0 : row 5 359 230999 1 1 = true := by decide +kernel
theorem r361_0 : row 5 361 229719 1 1 = true := by decide +kernel
theorem r363_0 : row 5 363 242161 1 1 = true := by decide +kernel
theorem r365_0 : row 5 365 240834 1 1 = true := by decide +kernel
theorem r367_0 : row 5 367 239522 1 1 = true := by decide +kernel
theorem r369_0 : row 5 369 238223 1 1 = true := by decide +kernel
theorem r371_0 : row 5 371 236939 1 1 = true := by decide +kernel
theorem r373_0 : row 5 373 235669 1 1 = true := by decide +kernel
theorem r375_0 : row 5 375 234412 1 1 = true := by decide +kernel
theorem r377_0 : row 4 377 247158 1 1 = true := by decide +kernel
theorem r379_0 : row 4 379 245854 1 1 = true := by decide +kernel
theorem r381_0 : row 4 381 244564 1 1 = true := by decide +kernel
theorem r383_0 : row 4 383 243286 1 1 = true := by decide +kernel
theorem r385_0 : row 4 385 242023 1 1 = true := by decide +kernel
theorem r387_0 : row 4 387 240772 1 1 = true := by decide +kernel
theorem r389_0 : row 4 389 239534 1 1 = true := by decide +kernel
theorem r391_0 : row 4 391 252607 1 1 = true := by decide +kernel
theorem r393_0 : row 4 393 251322 1 1 = true := by decide +kernel
theorem r395_0 : row 4 395 250049 1 1 = true := by decide +kernel
theorem r397_0 : row 4 397 248790 1 1 = true := by decide +kernel
theorem r399_0 : row 4 399 247542 1 1 = true := by decide +kernel
theorem r401_0 : row 4 401 246308 1 1 = true := by decide +kernel
theorem r403_0 : row 4 403 245085 1 1 = true := by decide +kernel
theorem r405_0 : row 4 405 243875 1 1 = true := by decide +kernel
theorem r407_0 : row 4 407 257237 1 1 = true := by decide +kernel
theorem r409_0 : row 4 409 255980 1 1 = true := by decide +kernel
theorem r411_0 : row 4 411 254734 1 1 = true := by decide +kernel
theorem r413_0 : row 4 413 253500 1 1 = true := by decide +kernel
theorem r415_0 : row 4 415 252279 1 1 = true := by decide +kernel
theorem r417_0 : row 4 417 251069 1 1 = true := by decide +kernel
theorem r419_0 : row 4 419 249870 1 1 = true := by decide +kernel
theorem r421_0 : row 4 421 248683 1 1 = true := by decide +kernel
theorem r423_0 : row 4 423 262358 1 1 = true := by decide +kernel
theorem r425_0 : row 4 425 261123 1 1 = true := by decide +kernel
theorem r427_0 : row 4 427 259900 1 1 = true := by decide +kernel
theorem r429_0 : row 4 429 258688 1 1 = true := by decide +kernel
theorem r431_0 : row 4 431 257488 1 1 = true := by decide +kernel
theorem r433_0 : row 4 433 256299 1 1 = true := by decide +kernel
theorem r435_0 : row 4 435 255120 1 1 = true := by decide +kernel
theorem r437_0 : row 4 437 253953 1 1 = true := by decide +kernel
theorem r439_0 : row 4 439 267964 1 1 = true := by decide +kernel
theorem r441_0 : row 4 441 266748 1 1 = true := by decide +kernel
theorem r443_0 : row 4 443 265544 1 1 = true := by decide +kernel
theorem r445_0 : row 4 445 264351 1 1 = true := by decide +kernel
theorem r447_0 : row 4 447 263168 1 1 = true := by decide +kernel
theorem r449_0 : row 4 449 261996 1 1 = true := by decide +kernel
theorem r451_0 : row 4 451 260834 1 1 = true := by decide +kernel
theorem r453_0 : row 4 453 259682 1 1 = true := by decide +kernel
theorem r455_0 : row 4 455 258541 1 1 = true := by decide +kernel
theorem r457_0 : row 3 457 272854 1 1 = true := by decide +kernel
theorem r459_0 : row 4 459 271665 1 1 = true := by decide +kernel
theorem r461_0 : row 4 461 270486 1 1 = true := by decide +kernel
theorem r463_0 : row 4 463 269318 1 1 = true := by decide +kernel
theorem r465_0 : row 4 465 268160 1 1 = true := by decide +kernel
theorem r467_0 : row 4 467 267011 1 1 = true := by decide +kernel
theorem r469_0 : row 4 469 265872 1 1 = true := by decide +kernel
theorem r471_0 : row 4 471 264743 1 1 = true := by decide +kernel
theorem r473_0 : row 4 473 263624 1 1 = true := by decide +kernel
theorem r475_0 : row 4 475 262514 1 1 = true := by decide +kernel
theorem r477_0 : row 3 477 277098 1 1 = true := by decide +kernel
theorem r479_0 : row 3 479 275941 1 1 = true := by decide +kernel
theorem r481_0 : row 3 481 274794 1 1 = true := by decide +kernel
theorem r483_0 : row 3 483 273656 1 1 = true := by decide +kernel
theorem r485_0 : row 3 485 272527 1 1 = true := by decide +kernel
theorem r487_0 : row 3 487 271408 1 1 = true := by decide +kernel
theorem r489_0 : row 3 489 270298 1 1 = true := by decide +kernel
theorem r491_0 : row 3 491 269197 1 1 = true := by decide +kernel
theorem r493_0 : row 3 493 268105 1 1 = true := by decide +kernel
theorem r495_0 : row 3 495 267022 1 1 = true := by decide +kernel
theorem r497_0 : row 3 497 281904 1 1 = true := by decide +kernel
theorem r499_0 : row 3 499 280774 1 1 = true := by decide +kernel
theorem r501_0 : row 3 501 279653 1 1 = true := by decide +kernel
theorem r503_0 : row 3 503 278542 1 1 = true := by decide +kernel
theorem r505_0 : row 3 505 277438 1 1 = true := by decide +kernel
theorem r507_0 : row 3 507 276344 1 1 = true := by decide +kernel
theorem r509_0 : row 3 509 275258 1 1 = true := by decide +kernel
theorem r511_0 : row 3 511 274181 1 1 = true := by decide +kernel
theorem r513_0 : row 3 513 273112 1 1 = true := by decide +kernel
theorem r515_0 : row 3 515 272051 1 1 = true := by decide +kernel
theorem r517_0 : row 2 517 287259 1 1 = true := by decide +kernel
theorem r519_0 : row 2 519 286152 1 1 = true := by decide +kernel
theorem r521_0 : row 2 521 285053 1 1 = true := by decide +kernel
theorem r523_0 : row 2 523 283963 1 1 = true := by decide +kernel
theorem r525_0 : row 2 525 282881 1 1 = true := by decide +kernel
theorem r527_0 : row 3 527 281808 1 1 = true := by decide +kernel
theorem r529_0 : row 3 529 280742 1 1 = true := by decide +kernel
theorem r531_0 : row 3 531 279685 1 1 = true := by decide +kernel
theorem r533_0 : row 3 533 278636 1 1 = true := by decide +kernel
theorem r535_0 : row 3 535 277594 1 1 = true := by decide +kernel
theorem r537_0 : row 3 537 276560 1 1 = true := by decide +kernel
theorem r539_0 : row 3 539 275534 1 1 = true := by decide +kernel
theorem r541_0 : row 2 541 290986 1 1 = true := by decide +kernel
theorem r543_0 : row 2 543 289914 1 1 = true := by decide +kernel
theorem r545_0 : row 2 545 288851 1 1 = true := by decide +kernel
theorem r547_0 : row 2 547 287794 1 1 = true := by decide +kernel
theorem r549_0 : row 2 549 286746 1 1 = true := by decide +kernel
theorem r551_0 : row 2 551 285705 1 1 = true := by decide +kernel
theorem r553_0 : row 2 553 284672 1 1 = true := by decide +kernel
theorem r555_0 : row 2 555 283646 1 1 = true := by decide +kernel
theorem r557_0 : row 2 557 282628 1 1 = true := by decide +kernel
theorem r559_0 : row 2 559 281616 1 1 = true := by decide +kernel
theorem r561_0 : row 2 561 280612 1 1 = true := by decide +kernel
theorem r563_0 : row 2 563 279616 1 1 = true := by decide +kernel
theorem r565_0 : row 1 565 295343 1 1 = true := by decide +kernel
theorem r567_0 : row 1 567 294302 1 1 = true := by decide +kernel
theorem r569_0 : row 1 569 293267 1 1 = true := by decide +kernel
theorem r571_0 : row 1 571 292240 1 1 = true := by decide +kernel
theorem r573_0 : row 1 573 291220 1 1 = true := by decide +kernel
theorem r575_0 : row 1 575 290207 1 1 = true := by decide +kernel
theorem r577_0 : row 1 577 289201 1 1 = true := by decide +kernel
theorem r579_0 : row 1 579 288202 1 1 = true := by decide +kernel
theorem r581_0 : row 1 581 287210 1 1 = true := by decide +kernel
theorem r583_0 : row 1 583 286225 1 1 = true := by decide +kernel
theorem r585_0 : row 1 585 285246 1 1 = true := by decide +kernel
theorem r587_0 : row 1 587 284274 1 1 = true := by decide +kernel
theorem r589_0 : row 1 589 283309 1 1 = true := by decide +kernel
theorem r599_0 : row 0 599 295294 1 1 = true := by decide +kernel
theorem r601_0 : row 0 601 294311 1 1 = true := by decide +kernel
theorem r603_0 : row 0 603 293335 1 1 = true := by decide +kernel
theorem r605_0 : row 0 605 292365 1 1 = true := by decide +kernel
theorem r607_0 : row 0 607 291402 1 1 = true := by decide +kernel
theorem r609_0 : row 0 609 290445 1 1 = true := by decide +kernel
theorem r611_0 : row 0 611 289494 1 1 = true := by decide +kernel
theorem r613_0 : row 0 613 288550 1 1 = true := by decide +kernel
theorem r615_0 : row 0 615 287612 1 1 = true := by decide +kernel
theorem r617_0 : row 0 617 286679 1 1 = true := by decide +kernel
theorem rows7 : Covs ((covt.drop 101).take 207) :=
  ⟨((((((CovY.one 205 159242).step r205_0 rfl rfl).step r205_1 rfl rfl).step r205_2 rfl rfl).step r205_3 rfl rfl).step r205_4 rfl rfl),
  ⟨((((((CovY.one 207 157703).step r207_0 rfl rfl).step r207_1 rfl rfl).step r207_2 rfl rfl).step r207_3 rfl rfl).step r207_4 rfl rfl),
  ⟨((((((CovY.one 209 156194).step r209_0 rfl rfl).step r209_1 rfl rfl).step r209_2 rfl rfl).step r209_3 rfl rfl).step r209_4 rfl rfl),
  ⟨((((((CovY.one 211 154713).step r211_0 rfl rfl).step r211_1 rfl rfl).step r211_2 rfl rfl).step r211_3 rfl rfl).step r211_4 rfl rfl),
  ⟨((((((CovY.one 213 162456).step r213_0 rfl rfl).step r213_1 rfl rfl).step r213_2 rfl rfl).step r213_3 rfl rfl).step r213_4 rfl rfl),
  ⟨((((((CovY.one 215 160945).step r215_0 rfl rfl).step r215_1 rfl rfl).step r215_2 rfl rfl).step r215_3 rfl rfl).step r215_4 rfl rfl),
  ⟨((((((CovY.one 217 159462).step r217_0 rfl rfl).step r217_1 rfl rfl).step r217_2 rfl rfl).step r217_3 rfl rfl).step r217_4 rfl rfl),
  ⟨(((((CovY.one 219 167486).step r219_0 rfl rfl).step r219_1 rfl rfl).step r219_2 rfl rfl).step r219_3 rfl rfl),
  ⟨(((((CovY.one 221 165970).step r221_0 rfl rfl).step r221_1 rfl rfl).step r221_2 rfl rfl).step r221_3 rfl rfl),
  ⟨(((((CovY.one 223 164482).step r223_0 rfl rfl).step r223_1 rfl rfl).step r223_2 rfl rfl).step r223_3 rfl rfl),
  ⟨(((((CovY.one 225 163020).step r225_0 rfl rfl).step r225_1 rfl rfl).step r225_2 rfl rfl).step r225_3 rfl rfl),
  ⟨(((((CovY.one 227 171278).step r227_0 rfl rfl).step r227_1 rfl rfl).step r227_2 rfl rfl).step r227_3 rfl rfl),
  ⟨(((((CovY.one 229 169782).step r229_0 rfl rfl).step r229_1 rfl rfl).step r229_2 rfl rfl).step r229_3 rfl rfl),
  ⟨(((((CovY.one 231 168313).step r231_0 rfl rfl).step r231_1 rfl rfl).step r231_2 rfl rfl).step r231_3 rfl rfl),
  ⟨(((((CovY.one 233 176880).step r233_0 rfl rfl).step r233_1 rfl rfl).step r233_2 rfl rfl).step r233_3 rfl rfl),
  ⟨(((((CovY.one 235 175374).step r235_0 rfl rfl).step r235_1 rfl rfl).step r235_2 rfl rfl).step r235_3 rfl rfl),
  ⟨(((((CovY.one 237 173895).step r237_0 rfl rfl).step r237_1 rfl rfl).step r237_2 rfl rfl).step r237_3 rfl rfl),
  ⟨(((((CovY.one 239 172439).step r239_0 rfl rfl).step r239_1 rfl rfl).step r239_2 rfl rfl).step r239_3 rfl rfl),
  ⟨((((CovY.one 241 181269).step r241_0 rfl rfl).step r241_1 rfl rfl).step r241_2 rfl rfl),
  ⟨((((CovY.one 243 179777).step r243_0 rfl rfl).step r243_1 rfl rfl).step r243_2 rfl rfl),
  ⟨((((CovY.one 245 178309).step r245_0 rfl rfl).step r245_1 rfl rfl).step r245_2 rfl rfl),
  ⟨((((CovY.one 247 176866).step r247_0 rfl rfl).step r247_1 rfl rfl).step r247_2 rfl rfl),
  ⟨((((CovY.one 249 185972).step r249_0 rfl rfl).step r249_1 rfl rfl).step r249_2 rfl rfl),
  ⟨((((CovY.one 251 184490).step r251_0 rfl rfl).step r251_1 rfl rfl).step r251_2 rfl rfl),
  ⟨((((CovY.one 253 183031).step r253_0 rfl rfl).step r253_1 rfl rfl).step r253_2 rfl rfl),
  ⟨((((CovY.one 255 181596).step r255_0 rfl rfl).step r255_1 rfl rfl).step r255_2 rfl rfl),
  ⟨((((CovY.one 257 190994).step r257_0 rfl rfl).step r257_1 rfl rfl).step r257_2 rfl rfl),
  ⟨((((CovY.one 259 189519).step r259_0 rfl rfl).step r259_1 rfl rfl).step r259_2 rfl rfl),
  ⟨((((CovY.one 261 188067).step r261_0 rfl rfl).step r261_1 rfl rfl).step r261_2 rfl rfl),
  ⟨((((CovY.one 263 186636).step r263_0 rfl rfl).step r263_1 rfl rfl).step r263_2 rfl rfl),
  ⟨((((CovY.one 265 196341).step r265_0 rfl rfl).step r265_1 rfl rfl).step r265_2 rfl rfl),
  ⟨((((CovY.one 267 194871).step r267_0 rfl rfl).step r267_1 rfl rfl).step r267_2 rfl rfl),
  ⟨((((CovY.one 269 193422).step r269_0 rfl rfl).step r269_1 rfl rfl).step r269_2 rfl rfl),
  ⟨((((CovY.one 271 191994).step r271_0 rfl rfl).step r271_1 rfl rfl).step r271_2 rfl rfl),
  ⟨((((CovY.one 273 190588).step r273_0 rfl rfl).step r273_1 rfl rfl).step r273_2 rfl rfl),
  ⟨(((CovY.one 275 200554).step r275_0 rfl rfl).step r275_1 rfl rfl),
  ⟨(((CovY.one 277 199106).step r277_0 rfl rfl).step r277_1 rfl rfl),
  ⟨(((CovY.one 279 197679).step r279_0 rfl rfl).step r279_1 rfl rfl),
  ⟨(((CovY.one 281 196272).step r281_0 rfl rfl).step r281_1 rfl rfl),
  ⟨(((CovY.one 283 206578).step r283_0 rfl rfl).step r283_1 rfl rfl),
  ⟨(((CovY.one 285 205128).step r285_0 rfl rfl).step r285_1 rfl rfl),
  ⟨(((CovY.one 287 203698).step r287_0 rfl rfl).step r287_1 rfl rfl),
  ⟨(((CovY.one 289 202289).step r289_0 rfl rfl).step r289_1 rfl rfl),
  ⟨(((CovY.one 291 200898).step r291_0 rfl rfl).step r291_1 rfl rfl),
  ⟨(((CovY.one 293 211499).step r293_0 rfl rfl).step r293_1 rfl rfl),
  ⟨(((CovY.one 295 210065).step r295_0 rfl rfl).step r295_1 rfl rfl),
  ⟨(((CovY.one 297 208650).step r297_0 rfl rfl).step r297_1 rfl rfl),
  ⟨(((CovY.one 299 207255).step r299_0 rfl rfl).step r299_1 rfl rfl),
  ⟨(((CovY.one 301 205878).step r301_0 rfl rfl).step r301_1 rfl rfl),
  ⟨(((CovY.one 303 216790).step r303_0 rfl rfl).step r303_1 rfl rfl),
  ⟨(((CovY.one 305 215368).step r305_0 rfl rfl).step r305_1 rfl rfl),
  ⟨(((CovY.one 307 213965).step r307_0 rfl rfl).step r307_1 rfl rfl),
  ⟨(((CovY.one 309 212580).step r309_0 rfl rfl).step r309_1 rfl rfl),
  ⟨(((CovY.one 311 211213).step r311_0 rfl rfl).step r311_1 rfl rfl),
  ⟨(((CovY.one 313 222455).step r313_0 rfl rfl).step r313_1 rfl rfl),
  ⟨(((CovY.one 315 221043).step r315_0 rfl rfl).step r315_1 rfl rfl),
  ⟨(((CovY.one 317 219648).step r317_0 rfl rfl).step r317_1 rfl rfl),
  ⟨(((CovY.one 319 218271).step r319_0 rfl rfl).step r319_1 rfl rfl),
  ⟨(((CovY.one 321 216911).step r321_0 rfl rfl).step r321_1 rfl rfl),
  ⟨(((CovY.one 323 215568).step r323_0 rfl rfl).step r323_1 rfl rfl),
  ⟨(((CovY.one 325 227096).step r325_0 rfl rfl).step r325_1 rfl rfl),
  ⟨(((CovY.one 327 225707).step r327_0 rfl rfl).step r327_1 rfl rfl),
  ⟨(((CovY.one 329 224335).step r329_0 rfl rfl).step r329_1 rfl rfl),
  ⟨(((CovY.one 331 222980).step r331_0 rfl rfl).step r331_1 rfl rfl),
  ⟨(((CovY.one 333 221640).step r333_0 rfl rfl).step r333_1 rfl rfl),
  ⟨(((CovY.one 335 220317).step r335_0 rfl rfl).step r335_1 rfl rfl),
  ⟨((CovY.one 337 232150).step r337_0 rfl rfl),
  ⟨((CovY.one 339 230781).step r339_0 rfl rfl),
  ⟨((CovY.one 341 229427).step r341_0 rfl rfl),
  ⟨((CovY.one 343 228089).step r343_0 rfl rfl),
  ⟨((CovY.one 345 226767).step r345_0 rfl rfl),
  ⟨((CovY.one 347 238988).step r347_0 rfl rfl),
  ⟨((CovY.one 349 237618).step r349_0 rfl rfl),
  ⟨((CovY.one 351 236264).step r351_0 rfl rfl),
  ⟨((CovY.one 353 234926).step r353_0 rfl rfl),
  ⟨((CovY.one 355 233602).step r355_0 rfl rfl),
  ⟨((CovY.one 357 232293).step r357_0 rfl rfl),
  ⟨((CovY.one 359 230999).step r359_0 rfl rfl),
  ⟨((CovY.one 361 229719).step r361_0 rfl rfl),
  ⟨((CovY.one 363 242161).step r363_0 rfl rfl),
  ⟨((CovY.one 365 240834).step r365_0 rfl rfl),
  ⟨((CovY.one 367 239522).step r367_0 rfl rfl),
  ⟨((CovY.one 369 238223).step r369_0 rfl rfl),
  ⟨((CovY.one 371 236939).step r371_0 rfl rfl),
  ⟨((CovY.one 373 235669).step r373_0 rfl rfl),
  ⟨((CovY.one 375 234412).step r375_0 rfl rfl),
  ⟨((CovY.one 377 247158).step r377_0 rfl rfl),
  ⟨((CovY.one 379 245854).step r379_0 rfl rfl),
  ⟨((CovY.one 381 244564).step r381_0 rfl rfl),
  ⟨((CovY.one 383 243286).step r383_0 rfl rfl),
  ⟨((CovY.one 385 242023).step r385_0 rfl rfl),
  ⟨((CovY.one 387 240772).step r387_0 rfl rfl),
  ⟨((CovY.one 389 239534).step r389_0 rfl rfl),
  ⟨((CovY.one 391 252607).step r391_0 rfl rfl),
  ⟨((CovY.one 393 251322).step r393_0 rfl rfl),
  ⟨((CovY.one 395 250049).step r395_0 rfl rfl),
  ⟨((CovY.one 397 248790).step r397_0 rfl rfl),
  ⟨((CovY.one 399 247542).step r399_0 rfl rfl),
  ⟨((CovY.one 401 246308).step r401_0 rfl rfl),
  ⟨((CovY.one 403 245085).step r403_0 rfl rfl),
  ⟨((CovY.one 405 243875).step r405_0 rfl rfl),
  ⟨((CovY.one 407 257237).step r407_0 rfl rfl),
  ⟨((CovY.one 409 255980).step r409_0 rfl rfl),
  ⟨((CovY.one 411 254734).step r411_0 rfl rfl),
  ⟨((CovY.one 413 253500).step r413_0 rfl rfl),
  ⟨((CovY.one 415 252279).step r415_0 rfl rfl),
  ⟨((CovY.one 417 251069).step r417_0 rfl rfl),
  ⟨((CovY.one 419 249870).step r419_0 rfl rfl),
  ⟨((CovY.one 421 248683).step r421_0 rfl rfl),
  ⟨((CovY.one 423 262358).step r423_0 rfl rfl),
  ⟨((CovY.one 425 261123).step r425_0 rfl rfl),
  ⟨((CovY.one 427 259900).step r427_0 rfl rfl),
  ⟨((CovY.one 429 258688).step r429_0 rfl rfl),
  ⟨((CovY.one 431 257488).step r431_0 rfl rfl),
  ⟨((CovY.one 433 256299).step r433_0 rfl rfl),
  ⟨((CovY.one 435 255120).step r435_0 rfl rfl),
  ⟨((CovY.one 437 253953).step r437_0 rfl rfl),
  ⟨((CovY.one 439 267964).step r439_0 rfl rfl),
  ⟨((CovY.one 441 266748).step r441_0 rfl rfl),
  ⟨((CovY.one 443 265544).step r443_0 rfl rfl),
  ⟨((CovY.one 445 264351).step r445_0 rfl rfl),
  ⟨((CovY.one 447 263168).step r447_0 rfl rfl),
  ⟨((CovY.one 449 261996).step r449_0 rfl rfl),
  ⟨((CovY.one 451 260834).step r451_0 rfl rfl),
  ⟨((CovY.one 453 259682).step r453_0 rfl rfl),
  ⟨((CovY.one 455 258541).step r455_0 rfl rfl),
  ⟨((CovY.one 457 272854).step r457_0 rfl rfl),
  ⟨((CovY.one 459 271665).step r459_0 rfl rfl),
  ⟨((CovY.one 461 270486).step r461_0 rfl rfl),
  ⟨((CovY.one 463 269318).step r463_0 rfl rfl),
  ⟨((CovY.one 465 268160).step r465_0 rfl rfl),
  ⟨((CovY.one 467 267011).step r467_0 rfl rfl),
  ⟨((CovY.one 469 265872).step r469_0 rfl rfl),
  ⟨((CovY.one 471 264743).step r471_0 rfl rfl),
  ⟨((CovY.one 473 263624).step r473_0 rfl rfl),
  ⟨((CovY.one 475 262514).step r475_0 rfl rfl),
  ⟨((CovY.one 477 277098).step r477_0 rfl rfl),
  ⟨((CovY.one 479 275941).step r479_0 rfl rfl),
  ⟨((CovY.one 481 274794).step r481_0 rfl rfl),
  ⟨((CovY.one 483 273656).step r483_0 rfl rfl),
  ⟨((CovY.one 485 272527).step r485_0 rfl rfl),
  ⟨((CovY.one 487 271408).step r487_0 rfl rfl),
  ⟨((CovY.one 489 270298).step r489_0 rfl rfl),
  ⟨((CovY.one 491 269197).step r491_0 rfl rfl),
  ⟨((CovY.one 493 268105).step r493_0 rfl rfl),
  ⟨((CovY.one 495 267022).step r495_0 rfl rfl),
  ⟨((CovY.one 497 281904).step r497_0 rfl rfl),
  ⟨((CovY.one 499 280774).step r499_0 rfl rfl),
  ⟨((CovY.one 501 279653).step r501_0 rfl rfl),
  ⟨((CovY.one 503 278542).step r503_0 rfl rfl),
  ⟨((CovY.one 505 277438).step r505_0 rfl rfl),
  ⟨((CovY.one 507 276344).step r507_0 rfl rfl),
  ⟨((CovY.one 509 275258).step r509_0 rfl rfl),
  ⟨((CovY.one 511 274181).step r511_0 rfl rfl),
  ⟨((CovY.one 513 273112).step r513_0 rfl rfl),
  ⟨((CovY.one 515 272051).step r515_0 rfl rfl),
  ⟨((CovY.one 517 287259).step r517_0 rfl rfl),
  ⟨((CovY.one 519 286152).step r519_0 rfl rfl),
  ⟨((CovY.one 521 285053).step r521_0 rfl rfl),
  ⟨((CovY.one 523 283963).step r523_0 rfl rfl),
  ⟨((CovY.one 525 282881).step r525_0 rfl rfl),
  ⟨((CovY.one 527 281808).step r527_0 rfl rfl),
  ⟨((CovY.one 529 280742).step r529_0 rfl rfl),
  ⟨((CovY.one 531 279685).step r531_0 rfl rfl),
  ⟨((CovY.one 533 278636).step r533_0 rfl rfl),
  ⟨((CovY.one 535 277594).step r535_0 rfl rfl),
  ⟨((CovY.one 537 276560).step r537_0 rfl rfl),
  ⟨((CovY.one 539 275534).step r539_0 rfl rfl),
  ⟨((CovY.one 541 290986).step r541_0 rfl rfl),
  ⟨((CovY.one 543 289914).step r543_0 rfl rfl),
  ⟨((CovY.one 545 288851).step r545_0 rfl rfl),
  ⟨((CovY.one 547 287794).step r547_0 rfl rfl),
  ⟨((CovY.one 549 286746).step r549_0 rfl rfl),
  ⟨((CovY.one 551 285705).step r551_0 rfl rfl),
  ⟨((CovY.one 553 284672).step r553_0 rfl rfl),
  ⟨((CovY.one 555 283646).step r555_0 rfl rfl),
  ⟨((CovY.one 557 282628).step r557_0 rfl rfl),
  ⟨((CovY.one 559 281616).step r559_0 rfl rfl),
  ⟨((CovY.one 561 280612).step r561_0 rfl rfl),
  ⟨((CovY.one 563 279616).step r563_0 rfl rfl),
  ⟨((CovY.one 565 295343).step r565_0 rfl rfl),
  ⟨((CovY.one 567 294302).step r567_0 rfl rfl),
  ⟨((CovY.one 569 293267).step r569_0 rfl rfl),
  ⟨((CovY.one 571 292240).step r571_0 rfl rfl),
  ⟨((CovY.one 573 291220).step r573_0 rfl rfl),
  ⟨((CovY.one 575 290207).step r575_0 rfl rfl),
  ⟨((CovY.one 577 289201).step r577_0 rfl rfl),
  ⟨((CovY.one 579 288202).step r579_0 rfl rfl),
  ⟨((CovY.one 581 287210).step r581_0 rfl rfl),
  ⟨((CovY.one 583 286225).step r583_0 rfl rfl),
  ⟨((CovY.one 585 285246).step r585_0 rfl rfl),
  ⟨((CovY.one 587 284274).step r587_0 rfl rfl),
  ⟨((CovY.one 589 283309).step r589_0 rfl rfl),
  ⟨(CovY.one 591 299291),
  ⟨(CovY.one 593 298282),
  ⟨(CovY.one 595 297279),
  ⟨(CovY.one 597 296283),
  ⟨((CovY.one 599 295294).step r599_0 rfl rfl),
  ⟨((CovY.one 601 294311).step r601_0 rfl rfl),
  ⟨((CovY.one 603 293335).step r603_0 rfl rfl),
  ⟨((CovY.one 605 292365).step r605_0 rfl rfl),
  ⟨((CovY.one 607 291402).step r607_0 rfl rfl),
  ⟨((CovY.one 609 290445).step r609_0 rfl rfl),
  ⟨((CovY.one 611 289494).step r611_0 rfl rfl),
  ⟨((CovY.one 613 288550).step r613_0 rfl rfl),
  ⟨((CovY.one 615 287612).step r615_0 rfl rfl),
  ⟨((CovY.one 617 286679).step r617_0 rfl rfl), trivial⟩⟩⟩⟩⟩⟩⟩⟩⟩⟩⟩⟩⟩⟩⟩⟩⟩⟩⟩⟩⟩⟩⟩⟩⟩⟩⟩⟩⟩⟩⟩⟩⟩⟩⟩⟩⟩⟩⟩⟩⟩⟩⟩⟩⟩⟩⟩⟩⟩⟩⟩⟩⟩⟩⟩⟩⟩⟩⟩⟩⟩⟩⟩⟩⟩⟩⟩⟩⟩⟩⟩⟩⟩⟩⟩⟩⟩⟩⟩⟩⟩⟩⟩⟩⟩⟩⟩⟩⟩⟩⟩⟩⟩⟩⟩⟩⟩⟩⟩⟩⟩⟩⟩⟩⟩⟩⟩⟩⟩⟩⟩⟩⟩⟩⟩⟩⟩⟩⟩⟩⟩⟩⟩⟩⟩⟩⟩⟩⟩⟩⟩⟩⟩⟩⟩⟩⟩⟩⟩⟩⟩⟩⟩⟩⟩⟩⟩⟩⟩⟩⟩⟩⟩⟩⟩⟩⟩⟩⟩⟩⟩⟩⟩⟩⟩⟩⟩⟩⟩⟩⟩⟩⟩⟩⟩⟩⟩⟩⟩⟩⟩⟩⟩⟩⟩⟩⟩⟩⟩⟩⟩⟩⟩⟩⟩⟩⟩⟩⟩⟩⟩⟩⟩⟩⟩⟩⟩
end Go.Proofs.YtogbdnecpdcmiabDoor.Mr
