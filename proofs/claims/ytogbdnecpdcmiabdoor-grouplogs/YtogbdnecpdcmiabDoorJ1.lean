/-
  Words: 128 bits divided, products and powers modulo a number.
-/
import Derived.Shelf.Small.Bits
import Derived.Shelf.Strconv.Itoa0
import Derived.Shelf.Bits.Mul64
import Derived.Shelf.Spec.TrailingZeros
import Derived.Test.YtogbdnecpdcmiabDoorProg
import Derived.Laws.Bits64b
import Derived.Lib.BitFns
import Derived.WalkKit
import Derived.Below
import Derived.Laws.ShiftsVar
import Derived.Laws.ShiftsVarLaws
import Derived.Deep.QuietTactic
import Derived.BigQuiet
import Derived.Outline
import Derived.Deep.Cut
import Derived.Deep.CutBlock
import Derived.Deep.CutRange
import Derived.Lib.Hide
/-
  Contracts of functions of math/bits, out of the shelf of contracts, at this program (by the shelf's own programs, in plain words).
-/
namespace Go.Proofs
open Go.Shelf
def Tryd.lays134_ren : Go.Shelf.Ren := ⟨fun | 134 => 91 | 129 => 78 | n => n, fun | 53 => 72 | 3 => 3 | 4 => 4 | 46 => 76 | 5 => 5 | 9 => 9 | n => n, fun | n => n⟩
theorem Tryd.lays134 : Go.Proofs.Lays.n134 Tryd.prog Tryd.lays134_ren := {
  mixed := by kernel_rfl
  f129 := Tryd.func78.trans (congrArg some (by kernel_rfl))
  f134 := Tryd.func91.trans (congrArg some (by kernel_rfl))
  t3 := Tryd.underlying3
  a3 := Tryd.isAgg3
  z3 := Tryd.sizeOf3
  v3 := Tryd.zeroValue3
  t4 := Tryd.underlying4
  a4 := Tryd.isAgg4
  z4 := Tryd.sizeOf4
  v4 := Tryd.zeroValue4
  t5 := Tryd.underlying5
  a5 := Tryd.isAgg5
  z5 := Tryd.sizeOf5
  v5 := Tryd.zeroValue5
  t9 := Tryd.underlying9
  a9 := Tryd.isAgg9
  z9 := Tryd.sizeOf9
  v9 := Tryd.zeroValue9
  t46 := Tryd.underlying76
  a46 := Tryd.isAgg76
  z46 := Tryd.sizeOf76
  v46 := Tryd.zeroValue76
  t53 := Tryd.underlying72
  a53 := Tryd.isAgg72
  z53 := Tryd.sizeOf72
  v53 := Tryd.zeroValue72 }
/-- bits.LeadingZeros64: "LeadingZeros64 returns the number of leading zero bits in x; the result is 64 for x == 0.": IT RETURNS '64 - Lib.bitLen x'; the world is as it was. ITS CALLEE bits.Len64 IS MET BY ITS OWN CONTRACT OFF THE SHELF (lay that first): entered in place it sends the kernel out of memory. (LAID: no walk: one application.) -/
theorem Tryd.bits_LeadingZeros64 (x : Int) (w : World) (h0 : 0 ≤ x) (h1 : x ≤ 18446744073709551615) :
    Calls Tryd.prog 91 #[.int .u64 x] w fun e w' => e = .returned (.int .i64 (64 - (Lib.bitLen x.toNat : Int))) ∧ w' = w := Any.bits_LeadingZeros64 Tryd.lays134 x w h0 h1
def Tryd.lays129_ren : Go.Shelf.Ren := ⟨fun | 129 => 78 | n => n, fun | 53 => 72 | 3 => 3 | 4 => 4 | 46 => 76 | 5 => 5 | 9 => 9 | n => n, fun | n => n⟩
theorem Tryd.lays129 : Go.Proofs.Lays.n129 Tryd.prog Tryd.lays129_ren := {
  mixed := by kernel_rfl
  f129 := Tryd.func78.trans (congrArg some (by kernel_rfl))
  t3 := Tryd.underlying3
  a3 := Tryd.isAgg3
  z3 := Tryd.sizeOf3
  v3 := Tryd.zeroValue3
  t4 := Tryd.underlying4
  a4 := Tryd.isAgg4
  z4 := Tryd.sizeOf4
  v4 := Tryd.zeroValue4
  t5 := Tryd.underlying5
  a5 := Tryd.isAgg5
  z5 := Tryd.sizeOf5
  v5 := Tryd.zeroValue5
  t9 := Tryd.underlying9
  a9 := Tryd.isAgg9
  z9 := Tryd.sizeOf9
  v9 := Tryd.zeroValue9
  t46 := Tryd.underlying76
  a46 := Tryd.isAgg76
  z46 := Tryd.sizeOf76
  v46 := Tryd.zeroValue76
  t53 := Tryd.underlying72
  a53 := Tryd.isAgg72
  z53 := Tryd.sizeOf72
  v53 := Tryd.zeroValue72 }
/-- bits.Len64: "Len64 returns the minimum number of bits required to represent x; the result is 0 for x == 0.": IT RETURNS 'Lib.bitLen x'; the world is as it was. ('h0', 'h1': x is a uint64.) (LAID: no walk: one application.) -/
theorem Tryd.bits_Len64 (x : Int) (w : World) (h0 : 0 ≤ x) (h1 : x ≤ 18446744073709551615) :
    Calls Tryd.prog 78 #[.int .u64 x] w fun e w' => e = .returned (.int .i64 (Lib.bitLen x.toNat)) ∧ w' = w := Any.bits_Len64 Tryd.lays129 x w h0 h1
def Tryd.lays264_ren : Go.Shelf.Ren := ⟨fun | 264 => 66 | n => n, fun | 53 => 72 | 46 => 76 | n => n, fun | n => n⟩
theorem Tryd.lays264 : Go.Proofs.Lays.n264 Tryd.prog Tryd.lays264_ren := {
  mixed := by kernel_rfl
  f264 := Tryd.func66.trans (congrArg some (by kernel_rfl))
  t46 := Tryd.underlying76
  a46 := Tryd.isAgg76
  z46 := Tryd.sizeOf76
  v46 := Tryd.zeroValue76
  t53 := Tryd.underlying72
  a53 := Tryd.isAgg72
  z53 := Tryd.sizeOf72
  v53 := Tryd.zeroValue72 }
open Go.RowKit Go.Lib in
theorem Tryd.bits_Mul64 (x y : Nat) (hx : x < 18446744073709551616) (hy : y < 18446744073709551616) (w : World) :
    Calls Tryd.prog 66 #[.int .u64 x, .int .u64 y] w fun e w' => e = .returned (.tuple #[.int .u64 ((x * y / 18446744073709551616 : Nat) : Int), .int .u64 ((x * y % 18446744073709551616 : Nat) : Int)]) ∧ w' = w := Any.bits_Mul64 Tryd.lays264 x y hx hy w
def Tryd.lays29_ren : Go.Shelf.Ren := ⟨fun | 29 => 52 | n => n, fun | 22 => 72 | 3 => 3 | 4 => 4 | 25 => 76 | 54 => 103 | 0 => 0 | 5 => 5 | n => n, fun | 1 => 1 | n => n⟩
theorem Tryd.lays29 : Go.Proofs.Lays7.n29 Tryd.prog Tryd.lays29_ren := {
  mixed := by kernel_rfl
  f29 := Tryd.func52.trans (congrArg some (by kernel_rfl))
  t0 := Tryd.underlying0
  a0 := Tryd.isAgg0
  z0 := Tryd.sizeOf0
  v0 := Tryd.zeroValue0
  i0 := by kernel_rfl
  t3 := Tryd.underlying3
  a3 := Tryd.isAgg3
  z3 := Tryd.sizeOf3
  v3 := Tryd.zeroValue3
  i3 := by kernel_rfl
  t4 := Tryd.underlying4
  a4 := Tryd.isAgg4
  z4 := Tryd.sizeOf4
  v4 := Tryd.zeroValue4
  i4 := by kernel_rfl
  t5 := Tryd.underlying5
  a5 := Tryd.isAgg5
  z5 := Tryd.sizeOf5
  v5 := Tryd.zeroValue5
  i5 := by kernel_rfl
  t22 := Tryd.underlying72
  a22 := Tryd.isAgg72
  z22 := Tryd.sizeOf72
  v22 := Tryd.zeroValue72
  i22 := by kernel_rfl
  t25 := Tryd.underlying76
  a25 := Tryd.isAgg76
  z25 := Tryd.sizeOf76
  v25 := Tryd.zeroValue76
  i25 := by kernel_rfl
  t54 := Tryd.underlying103
  a54 := Tryd.isAgg103
  z54 := Tryd.sizeOf103
  g1 := by kernel_rfl }
open Go.RowKit Go.Lib in
theorem Tryd.bits_TrailingZeros64 (x : Nat) (hx : x < 18446744073709551616) (w : World) (hT : x ≠ 0 → TabAt 1 Lib.deBruijn64tab w) :
    Calls Tryd.prog 52 #[.int .u64 x] w fun e w' => e = .returned (.int .i64 (Lib.ctz 64 x)) ∧ w' = w := Any7.bits_TrailingZeros64 Tryd.lays29 x hx w hT
end Go.Proofs
/-
  The arithmetic of a division of 128 bits by 64 bits, in two steps of 32 bits: plain mathematics.
-/
namespace Go.Proofs.YtogbdnecpdcmiabDoor
open Go
theorem wrapN (a : Nat) (ha : a < 18446744073709551616) : IntKind.u64.wrap (a : Int) = (a : Int) := by rw [IntKind.wrap_u64]; omega
theorem wrapM (a : Nat) : IntKind.u64.wrap (a : Int) = ((a % 18446744073709551616 : Nat) : Int) := by rw [IntKind.wrap_u64]; omega
theorem maskN (a : Nat) (ha : a < 18446744073709551616) : bits .and .u64 (a : Int) 4294967295 = ((a % 4294967296 : Nat) : Int) := by
  have h := bits_and_u64_nat a 4294967295 ha (by omega)
  have e : a &&& 4294967295 = a % 4294967296 := Nat.and_two_pow_sub_one_eq_mod a 32
  rw [e] at h
  exact h
theorem kn_inv0 {y1 y0 un d : Nat} (h1 : 0 < y1) (hd : d < 4294967296) : (un * 4294967296 + d) / (y1 * 4294967296 + y0) ≤ un / y1 := by
  have a : (un * 4294967296 + d) / (y1 * 4294967296 + y0) ≤ (un * 4294967296 + d) / (4294967296 * y1) := Nat.div_le_div_left (by omega) (by omega)
  have b : (un * 4294967296 + d) / (4294967296 * y1) = un / y1 := by
    rw [← Nat.div_div_eq_div_mul]; congr 1; omega
  omega
theorem kn_eq {q y1 y0 r un : Nat} (h : q * y1 + r = un) : q * (y1 * 4294967296 + y0) + r * 4294967296 = un * 4294967296 + q * y0 := by
  subst h; grind
theorem kn_dec {y1 y0 un d q r : Nat} (hd : d < 4294967296) (h : q * y1 + r = un) (hu : un < y1 * 4294967296 + y0) (ht : 4294967296 ≤ q ∨ 4294967296 * r + d < q * y0) :
    (un * 4294967296 + d) / (y1 * 4294967296 + y0) < q := by
  rw [Nat.div_lt_iff_lt_mul (by omega)]
  rcases ht with ht | ht
  · have a := Nat.mul_le_mul_right (y1 * 4294967296 + y0) ht
    have b := Nat.mul_le_mul_left 4294967296 (show un + 1 ≤ y1 * 4294967296 + y0 from hu)
    omega
  · have e := kn_eq (y0 := y0) h
    omega
theorem kn_exit {y1 y0 un d q r : Nat} (hY : 0 < y1 * 4294967296 + y0) (h : q * y1 + r = un) (ht : q * y0 ≤ 4294967296 * r + d) (hq : (un * 4294967296 + d) / (y1 * 4294967296 + y0) ≤ q) :
    (un * 4294967296 + d) / (y1 * 4294967296 + y0) = q := by
  refine Nat.le_antisymm hq ?_
  rw [Nat.le_div_iff_mul_le hY]
  have e := kn_eq (y0 := y0) h
  omega
theorem kn_brk {y1 y0 un d q r : Nat} (hy0 : y0 < 4294967296) (h : q * y1 + r = un) (hu : un < y1 * 4294967296 + y0) (hr : 4294967296 ≤ r) : q * y0 ≤ 4294967296 * r + d := by
  have hq : q < 4294967296 := by
    rcases Nat.lt_or_ge q 4294967296 with hq | hq
    · exact hq
    · have := Nat.mul_le_mul_right y1 hq; omega
  have a : q * y0 ≤ q * 4294967296 := Nat.mul_le_mul_left _ (by omega)
  have b : q * 4294967296 ≤ r * 4294967296 := Nat.mul_le_mul_right _ (by omega)
  omega
/-- what a round of the correction keeps -/
structure KInv (y1 y0 un d q r : Nat) : Prop where
  eq : q * y1 + r = un
  le : (un * 4294967296 + d) / (y1 * 4294967296 + y0) ≤ q
  r32 : r < 4294967296
/-- the numbers of the divisor and of the dividend -/
structure KY (y1 y0 un d : Nat) : Prop where
  lo : 2147483648 ≤ y1
  hi : y1 < 4294967296
  z0 : y0 < 4294967296
  ul : un < y1 * 4294967296 + y0
  dl : d < 4294967296
theorem KInv.start {y1 y0 un d : Nat} (h : KY y1 y0 un d) : KInv y1 y0 un d (un / y1) (un % y1) :=
  ⟨by rw [Nat.mul_comm]; exact Nat.div_add_mod un y1, kn_inv0 (by have := h.lo; omega) h.dl, Nat.lt_trans (Nat.mod_lt _ (by have := h.lo; omega)) h.hi⟩
theorem KInv.next {y1 y0 un d q r : Nat} (h : KY y1 y0 un d) (k : KInv y1 y0 un d q r) (ht : 4294967296 ≤ q ∨ 4294967296 * r + d < q * y0) :
    0 < q ∧ (q - 1) * y1 + (r + y1) = un ∧ (un * 4294967296 + d) / (y1 * 4294967296 + y0) ≤ q - 1 := by
  have a := kn_dec h.dl k.eq h.ul ht
  generalize (un * 4294967296 + d) / (y1 * 4294967296 + y0) = Q at a ⊢
  obtain ⟨p, rfl⟩ : ∃ p, q = p + 1 := ⟨q - 1, by omega⟩
  refine ⟨by omega, ?_, by omega⟩
  have := k.eq
  rw [Nat.add_sub_cancel]; rw [Nat.succ_mul] at this; omega
theorem KInv.done {y1 y0 un d q r : Nat} (h : KY y1 y0 un d) (k : KInv y1 y0 un d q r) (ht : q * y0 ≤ 4294967296 * r + d) : q = (un * 4294967296 + d) / (y1 * 4294967296 + y0) :=
  (kn_exit (by have := h.lo; omega) k.eq ht k.le).symm
theorem kn_done {y1 y0 un d q r : Nat} (h : KY y1 y0 un d) (e : q * y1 + r = un) (hq : (un * 4294967296 + d) / (y1 * 4294967296 + y0) ≤ q) (hr : 4294967296 ≤ r) :
    q = (un * 4294967296 + d) / (y1 * 4294967296 + y0) :=
  (kn_exit (by have := h.lo; omega) e (kn_brk h.z0 e h.ul hr) hq).symm
theorem KInv.q_lt {y1 y0 un d q r : Nat} (h : KY y1 y0 un d) (k : KInv y1 y0 un d q r) : q < 8589934592 := by
  rcases Nat.lt_or_ge q 8589934592 with hq | hq
  · exact hq
  · have a := Nat.mul_le_mul_right y1 hq
    have := k.eq; have := h.ul; have := h.z0; have := h.lo; omega
/-- the remainder of a step, in the arithmetic modulo 2^64 -/
theorem kn_rem {Y un d q : Nat} (hY : 0 < Y) (hY2 : Y ≤ 18446744073709551616) (hq : q = (un * 4294967296 + d) / Y) :
    IntKind.u64.wrap (IntKind.u64.wrap (IntKind.u64.wrap ((un : Int) * 4294967296) + (d : Int)) - IntKind.u64.wrap ((q : Int) * (Y : Int))) = (((un * 4294967296 + d) % Y : Nat) : Int) := by
  have h := Nat.div_add_mod (un * 4294967296 + d) Y
  have hr := Nat.mod_lt (un * 4294967296 + d) hY
  rw [← hq, Nat.mul_comm] at h
  generalize (un * 4294967296 + d) % Y = R at h hr
  have e : (q : Int) * (Y : Int) = ((q * Y : Nat) : Int) := by push_cast; rfl
  rw [e]
  generalize q * Y = X at h
  simp only [IntKind.wrap_u64]
  omega
theorem shl_cast (a s : Nat) : (a : Int) * 2 ^ s = ((a * 2 ^ s : Nat) : Int) := by rw [Int.natCast_mul, Int.natCast_pow]; rfl
theorem shlN (a s : Nat) (h : a * 2 ^ s < 18446744073709551616) : IntKind.u64.wrap ((a : Int) * 2 ^ s) = ((a * 2 ^ s : Nat) : Int) := by rw [shl_cast]; exact wrapN _ h
theorem shlM (a s : Nat) : IntKind.u64.wrap ((a : Int) * 2 ^ s) = ((a * 2 ^ s % 18446744073709551616 : Nat) : Int) := by rw [shl_cast]; exact wrapM _
theorem shr_cast (a s : Nat) : (a : Int) / 2 ^ s = ((a / 2 ^ s : Nat) : Int) := by rw [Int.natCast_ediv, Int.natCast_pow]; rfl
/-- the upper word of the shifted dividend -/
theorem orN {hi lo y s : Nat} (hy : hi < y) (hs : s ≤ 64) (hup : y * 2 ^ s < 18446744073709551616) (hl : lo < 18446744073709551616) :
    bits BinOp.or IntKind.u64 (IntKind.u64.wrap ((hi : Int) * 2 ^ s)) ((lo : Int) / 2 ^ (64 - s)) = ((hi * 2 ^ s + lo / 2 ^ (64 - s) : Nat) : Int) := by
  have h1 : hi * 2 ^ s < 18446744073709551616 := Nat.lt_of_le_of_lt (Nat.mul_le_mul_right _ (by omega)) hup
  have h2 : lo / 2 ^ (64 - s) < 2 ^ s := by
    rw [Nat.div_lt_iff_lt_mul (Nat.pow_pos (by decide)), ← Nat.pow_add, show s + (64 - s) = 64 by omega]; omega
  have h3 : lo / 2 ^ (64 - s) < 18446744073709551616 := Nat.lt_of_le_of_lt (Nat.div_le_self _ _) hl
  rw [shlN _ _ h1, shr_cast, bits_or_u64_nat _ _ h1 h3, Nat.mul_comm hi, ← Nat.two_pow_add_eq_or_of_lt h2]
/-- what the shifted numbers are -/
theorem shifted {hi lo s : Nat} (hs : s ≤ 64) : (hi * 2 ^ s + lo / 2 ^ (64 - s)) * 18446744073709551616 + lo * 2 ^ s % 18446744073709551616 = (hi * 18446744073709551616 + lo) * 2 ^ s := by
  have h := Nat.div_add_mod (lo * 2 ^ s) 18446744073709551616
  have e : lo * 2 ^ s / 18446744073709551616 = lo / 2 ^ (64 - s) := by
    have : (18446744073709551616 : Nat) = 2 ^ (64 - s) * 2 ^ s := by rw [← Nat.pow_add, show 64 - s + s = 64 by omega]
    rw [this, Nat.mul_div_mul_right _ _ (Nat.pow_pos (by decide))]
  rw [e] at h
  generalize lo * 2 ^ s % 18446744073709551616 = m at h
  generalize lo / 2 ^ (64 - s) = k at h
  rw [Nat.add_mul, Nat.add_mul, ← h]
  grind
/-- the remainder of both steps -/
theorem two_steps {Y un u1 u0 : Nat} :
    ((un * 4294967296 + u1) % Y * 4294967296 + u0) % Y = (un * 18446744073709551616 + (u1 * 4294967296 + u0)) % Y := by
  have e : un * 18446744073709551616 + (u1 * 4294967296 + u0) = (un * 4294967296 + u1) * 4294967296 + u0 := by grind
  rw [e, Nat.add_mod, Nat.mod_mul_mod, ← Nat.add_mod]
theorem unshift {N y s : Nat} : N * 2 ^ s % (y * 2 ^ s) / 2 ^ s = N % y := by
  rw [Nat.mul_mod_mul_right, Nat.mul_div_cancel _ (Nat.pow_pos (by decide))]
theorem un_lt {hi lo y s : Nat} (hy : hi < y) (hs : s ≤ 64) (hl : lo < 18446744073709551616) : hi * 2 ^ s + lo / 2 ^ (64 - s) < y * 2 ^ s := by
  have h2 : lo / 2 ^ (64 - s) < 2 ^ s := by
    rw [Nat.div_lt_iff_lt_mul (Nat.pow_pos (by decide)), ← Nat.pow_add, show s + (64 - s) = 64 by omega]; omega
  have := Nat.mul_le_mul_right (2 ^ s) (show hi + 1 ≤ y from hy)
  rw [Nat.succ_mul] at this; omega
theorem bitLenAux_spec : ∀ f x, 0 < x → x < 2 ^ f → ∃ k, Lib.bitLenAux f x = k + 1 ∧ 2 ^ k ≤ x ∧ x < 2 ^ (k + 1) ∧ k < f := by
  intro f
  induction f with
  | zero => intro x h1 h2; rw [Nat.pow_zero] at h2; omega
  | succ f ih =>
    intro x h1 h2
    rw [Lib.bitLenAux, if_neg (by omega)]
    rcases Nat.lt_or_ge x 2 with h | h
    · have : x = 1 := by omega
      subst this
      refine ⟨0, ?_, by decide, by decide, by omega⟩
      have e : (1 / 2 : Nat) = 0 := by decide
      rw [e]; cases f with
      | zero => rfl
      | succ f => rw [Lib.bitLenAux, if_pos rfl]
    · obtain ⟨k, a, b, c, d⟩ := ih (x / 2) (by omega) (by rw [Nat.pow_succ] at h2; omega)
      refine ⟨k + 1, by omega, ?_, ?_, by omega⟩
      · rw [Nat.pow_succ]; omega
      · rw [Nat.pow_succ]; rw [Nat.pow_succ] at c ⊢; omega
theorem bitLen_spec {y : Nat} (h0 : 0 < y) (h : y < 18446744073709551616) : ∃ s : Nat, 64 - (Lib.bitLen y : Int) = (s : Int) ∧ s ≤ 63 ∧ 9223372036854775808 ≤ y * 2 ^ s ∧ y * 2 ^ s < 18446744073709551616 := by
  obtain ⟨k, a, b, c, d⟩ := bitLenAux_spec 64 y h0 h
  have e : Lib.bitLen y = k + 1 := a
  refine ⟨63 - k, by rw [e]; omega, by omega, ?_, ?_⟩
  · have := Nat.mul_le_mul_right (2 ^ (63 - k)) b
    rw [← Nat.pow_add, show k + (63 - k) = 63 by omega] at this
    exact this
  · have := Nat.mul_lt_mul_of_pos_right c (show 0 < 2 ^ (63 - k) from Nat.pow_pos (by decide))
    rw [← Nat.pow_add, show k + 1 + (63 - k) = 64 by omega] at this
    exact this
end Go.Proofs.YtogbdnecpdcmiabDoor
/-
  math/bits.Div64: the remainder is that of the division of the 128 bits.
-/
namespace Go.Proofs.YtogbdnecpdcmiabDoor
open Go Go.RowKit
set_option maxHeartbeats 400000 in
theorem div64_low (lo y : Nat) (hy : 0 < y) (hl : lo < 18446744073709551616) (hy2 : y < 18446744073709551616) (w : World) :
    Calls Tryd.prog 67 #[.int .u64 0, .int .u64 lo, .int .u64 y] w fun e w' => e = .returned (.tuple #[.int .u64 (lo / y : Nat), .int .u64 (lo % y : Nat)]) ∧ ∃ n, w' = w.drewN n := by
  have h1 : ((y : Int) == 0) = false := by simp; omega
  have h2 : decide ((y : Int) ≤ 0) = false := by simp; omega
  go_enter Tryd.func67, Tryd.ntmps67
  go_wp2
  have hq : (y : Int) ≠ 0 := by omega
  go_quiet (fail)
  go_wp2
  go_ret2
  refine ⟨?_, _, rfl⟩
  have e1 : IntKind.u64.wrap ((lo : Int) / (y : Int)) = ((lo / y : Nat) : Int) := by
    rw [← Int.natCast_ediv]; exact wrapN _ (Nat.lt_of_le_of_lt (Nat.div_le_self _ _) hl)
  show Ending.returned (.tuple #[.int .u64 (IntKind.u64.wrap ((lo : Int) / (y : Int))), .int .u64 ((lo : Int) % (y : Int))]) = _
  rw [e1, ← Int.natCast_emod]
theorem val_int {k : IntKind} {a b : Int} (h : a = b) : Value.int k a = Value.int k b := by rw [h]
theorem mul32 {a b : Nat} (ha : a < 4294967296) (hb : b < 4294967296) : a * b < 18446744073709551616 := by
  have h1 : a * b ≤ a * 4294967296 := Nat.mul_le_mul_left _ (by omega)
  omega
theorem lz64 (y : Nat) (h0 : 0 < y) (h : y < 18446744073709551616) (w : World) :
    Calls Tryd.prog 91 #[.int .u64 y] w fun e w' => ∃ s : Nat, e = .returned (.int .i64 s) ∧ s ≤ 63 ∧ 9223372036854775808 ≤ y * 2 ^ s ∧ y * 2 ^ s < 18446744073709551616 ∧ w = w' := by
  refine (Tryd.bits_LeadingZeros64 y w (by omega) (by omega)).mono ?_
  rintro e w' ⟨rfl, rfl⟩
  obtain ⟨s, a, b, c, d⟩ := bitLen_spec h0 h
  exact ⟨s, by rw [Int.toNat_natCast, a], b, c, d, rfl⟩
set_option maxRecDepth 100000 in
set_option maxHeartbeats 1000000 in
theorem div64_high (hi lo y : Nat) (h0 : 0 < hi) (hy : hi < y) (hl : lo < 18446744073709551616) (hy2 : y < 18446744073709551616) (w : World) :
    Calls Tryd.prog 67 #[.int .u64 hi, .int .u64 lo, .int .u64 y] w fun e w' => ∃ q : Int, e = .returned (.tuple #[.int .u64 q, .int .u64 ((hi * 18446744073709551616 + lo) % y : Nat)]) ∧ w' = w := by
  have h1 : ((y : Int) == 0) = false := by simp; omega
  have h2 : decide ((y : Int) ≤ (hi : Int)) = false := by simp; omega
  have h2' : decide (y ≤ hi) = false := by simp; omega
  have h3 : ((hi : Int) == 0) = false := by simp; omega
  go_enter Tryd.func67, Tryd.ntmps67
  go_upto_region 15 with (go_at_call 91; refine (lz64 _ (by omega) hy2 _).mono ?_; rintro e w' ⟨s, rfl, hs, hlo, hup, rfl⟩)
  obtain ⟨Y, hY⟩ : ∃ Y, Y = y * 2 ^ s := ⟨_, rfl⟩
  obtain ⟨un, hun⟩ : ∃ un, un = hi * 2 ^ s + lo / 2 ^ (64 - s) := ⟨_, rfl⟩
  obtain ⟨ul, hul⟩ : ∃ ul, ul = lo * 2 ^ s % 18446744073709551616 := ⟨_, rfl⟩
  have e1 : IntKind.u64.wrap ((y : Int) * 2 ^ s) = (Y : Int) := by rw [hY]; exact shlN _ _ hup
  have e2 : bits BinOp.or IntKind.u64 (IntKind.u64.wrap ((hi : Int) * 2 ^ s)) ((lo : Int) / 2 ^ (64 - s)) = (un : Int) := by rw [hun]; exact orN hy (by omega) hup hl
  have e3 : IntKind.u64.wrap ((lo : Int) * 2 ^ s) = (ul : Int) := by rw [hul]; exact shlM _ _
  have hunY : un < Y := by rw [hun, hY]; exact un_lt hy (by omega) hl
  have hsh : un * 18446744073709551616 + ul = (hi * 18446744073709551616 + lo) * 2 ^ s := by rw [hun, hul]; exact shifted (by omega)
  rw [← hY] at hlo hup
  have hul2 : ul < 18446744073709551616 := by rw [hul]; exact Nat.mod_lt _ (by omega)
  obtain ⟨y1, hy1⟩ : ∃ y1, y1 = Y / 4294967296 := ⟨_, rfl⟩
  obtain ⟨y0, hy0⟩ : ∃ y0, y0 = Y % 4294967296 := ⟨_, rfl⟩
  obtain ⟨u1, hu1⟩ : ∃ u1, u1 = ul / 4294967296 := ⟨_, rfl⟩
  obtain ⟨u0, hu0⟩ : ∃ u0, u0 = ul % 4294967296 := ⟨_, rfl⟩
  have e4 : (Y : Int) / 4294967296 = (y1 : Int) := by omega
  have e5 : (ul : Int) / 4294967296 = (u1 : Int) := by omega
  have eY : y1 * 4294967296 + y0 = Y := by rw [hy1, hy0]; exact Nat.div_add_mod' Y 4294967296
  have K1 : KY y1 y0 un u1 := ⟨by omega, by omega, by omega, by omega, by omega⟩
  have l1 : 2147483648 ≤ y1 := K1.lo
  have l2 : y1 < 4294967296 := K1.hi
  have l3 : y0 < 4294967296 := K1.z0
  have l4 : u1 < 4294967296 := K1.dl
  have l5 : u0 < 4294967296 := by omega
  simp only [e1, e2, e3, maskN Y hup, maskN ul hul2, e4, e5, ← hy0, ← hu0]
  have HY := Lib.hid hY; have Hsh := Lib.hid hsh; have HeY := Lib.hid eY; have Hu1 := Lib.hid hu1; have Hu0 := Lib.hid hu0
  clear hY hun hul hsh eY hu1 hu0 hy1 hy0 e1 e2 e3 e4 e5 hul2
  obtain ⟨q, hq⟩ : ∃ q, q = un / y1 := ⟨_, rfl⟩
  obtain ⟨r, hr⟩ : ∃ r, r = un % y1 := ⟨_, rfl⟩
  have i0 : KInv y1 y0 un u1 q r := by rw [hq, hr]; exact KInv.start K1
  have e6 : (un : Int) / (y1 : Int) = (q : Int) := by rw [hq]; exact (Int.natCast_ediv _ _).symm
  have e7 : IntKind.u64.wrap ((un : Int) - IntKind.u64.wrap ((q : Int) * (y1 : Int))) = (r : Int) := by
    have a := i0.eq
    have b : (q : Int) * (y1 : Int) = ((q * y1 : Nat) : Int) := (Int.natCast_mul _ _).symm
    rw [b, wrapN _ (by omega)]
    generalize q * y1 = X at a
    rw [IntKind.wrap_u64]; omega
  have hy1 : ¬ (y1 : Int) = 0 := by omega
  have lq : q < 8589934592 := i0.q_lt K1
  have e8 : IntKind.u64.wrap (q : Int) = (q : Int) := wrapN _ (by omega)
  clear hq hr
  go_upto_block 0 with (simp only [e6, e7, e8])
  clear e6 e7 e8
  have Hl := Lib.hid hl; have Hy2 := Lib.hid hy2; have Hup := Lib.hid hup; have Hlo := Lib.hid hlo; have HK1 := Lib.hid K1; have Hi0 := Lib.hid i0; have HunY := Lib.hid hunY
  clear hl hy2 hup hlo K1 i0 hunY
  go_cut [15] from 59 (fun a wc => a = .int .u64 ((un * 4294967296 + u1) / Y : Nat) ∧ w = wc)
  case first =>
    go_wp2_with (fail)
    go_loop [15, 16] (fun a b => ∃ q r : Nat, a = .int .u64 q ∧ b = .int .u64 r ∧ KInv y1 y0 un u1 q r) (fun a _ => (intOf a).toNat)
    case atStart => exact ⟨q, r, rfl, rfl, Hi0.out⟩
    case round =>
      clear Hi0 lq
      obtain ⟨q, r, rfl, rfl, k⟩ := hrel
      have lq := k.q_lt HK1.out
      have lr := k.r32
      have Hk := Lib.hid k
      clear k
      by_cases hq : 4294967296 ≤ q
      · obtain ⟨n1, n2, n3⟩ := Hk.out.next HK1.out (Or.inl hq)
        have N2 := Lib.hid n2; have N3 := Lib.hid n3
        clear n2 n3
        have t1 : decide ((4294967296 : Int) ≤ (q : Int)) = true := by simp; omega
        have t2 : decide (4294967296 ≤ q) = true := by simp; omega
        by_cases hb : 4294967296 ≤ r + y1
        · have t4 : decide ((4294967296 : Int) ≤ (r : Int) + (y1 : Int)) = true := by simp; omega
          skip
          go_wp2
          go_meet
          case rel => exact ⟨val_int (by have h := kn_done HK1.out N2.out N3.out hb; rw [HeY.out] at h; rw [← h]; omega), rfl⟩
        · have t4 : decide ((4294967296 : Int) ≤ (r : Int) + (y1 : Int)) = false := by simp; omega
          skip
          go_wp2
          go_round
          case rel => exact ⟨q - 1, r + y1, by go_num, by go_num, ⟨N2.out, N3.out, by omega⟩⟩
          case measure => simp [intOf]; omega
      · have t1 : decide ((4294967296 : Int) ≤ (q : Int)) = false := by simp; omega
        have t2 : decide (4294967296 ≤ q) = false := by simp; omega
        obtain ⟨A, hA⟩ : ∃ A, A = q * y0 := ⟨_, rfl⟩
        obtain ⟨B, hB⟩ : ∃ B, B = 4294967296 * r := ⟨_, rfl⟩
        obtain ⟨D, hD⟩ : ∃ D, D = B + u1 := ⟨_, rfl⟩
        have kA : IntKind.u64.wrap ((q : Int) * (y0 : Int)) = (A : Int) := by rw [hA, ← Int.natCast_mul]; exact wrapN _ (mul32 (by omega) l3)
        have kB : IntKind.u64.wrap (4294967296 * (r : Int)) = (B : Int) := by rw [hB, IntKind.wrap_u64]; omega
        have kD : IntKind.u64.wrap ((B : Int) + (u1 : Int)) = (D : Int) := by rw [hD, IntKind.wrap_u64]; omega
        have HA := Lib.hid hA; have HB := Lib.hid hB; have HD := Lib.hid hD
        clear hA hB hD
        by_cases hc : D < A
        · obtain ⟨n1, n2, n3⟩ := Hk.out.next HK1.out (Or.inr (by rw [← HB.out, ← HD.out, ← HA.out]; exact hc))
          have N2 := Lib.hid n2; have N3 := Lib.hid n3
          clear n2 n3
          have t5 : decide ((D : Int) < (A : Int)) = true := by simp; omega
          have t6 : decide (D < A) = true := by simp; omega
          by_cases hb : 4294967296 ≤ r + y1
          · have t4 : decide ((4294967296 : Int) ≤ (r : Int) + (y1 : Int)) = true := by simp; omega
            skip
            go_wp2
            go_meet
            case rel => exact ⟨val_int (by have h := kn_done HK1.out N2.out N3.out hb; rw [HeY.out] at h; rw [← h]; omega), rfl⟩
          · have t4 : decide ((4294967296 : Int) ≤ (r : Int) + (y1 : Int)) = false := by simp; omega
            skip
            go_wp2
            go_round
            case rel => exact ⟨q - 1, r + y1, by go_num, by go_num, ⟨N2.out, N3.out, by omega⟩⟩
            case measure => simp [intOf]; omega
        · have t5 : decide ((D : Int) < (A : Int)) = false := by simp; omega
          have t6 : decide (D < A) = false := by simp; omega
          go_wp2
          go_meet
          case rel => exact ⟨val_int (by have h := Hk.out.done HK1.out (by rw [← HB.out, ← HD.out, ← HA.out]; omega); rw [HeY.out] at h; rw [← h]), rfl⟩
  case rest =>
    obtain ⟨rfl, rfl⟩ := hcut
    obtain ⟨q1, hq1⟩ : ∃ q1, q1 = (un * 4294967296 + u1) / Y := ⟨_, rfl⟩
    obtain ⟨v, hv⟩ : ∃ v, v = (un * 4294967296 + u1) % Y := ⟨_, rfl⟩
    have f1 : IntKind.u64.wrap (IntKind.u64.wrap (IntKind.u64.wrap ((un : Int) * 4294967296) + (u1 : Int)) - IntKind.u64.wrap ((q1 : Int) * (Y : Int))) = (v : Int) := by
      rw [hv]; exact kn_rem (by have := Hlo.out; omega) (by have := Hup.out; omega) hq1
    rw [← hq1]
    have hvY : v < Y := by rw [hv]; exact Nat.mod_lt _ (by have := Hlo.out; omega)
    have K2 : KY y1 y0 v u0 := ⟨l1, l2, l3, by rw [HeY.out]; exact hvY, l5⟩
    have Hv := Lib.hid hv
    clear hv hq1 hvY
    obtain ⟨q, hq⟩ : ∃ q, q = v / y1 := ⟨_, rfl⟩
    obtain ⟨r, hr⟩ : ∃ r, r = v % y1 := ⟨_, rfl⟩
    have i0 : KInv y1 y0 v u0 q r := by rw [hq, hr]; exact KInv.start K2
    have e6 : (v : Int) / (y1 : Int) = (q : Int) := by rw [hq]; exact (Int.natCast_ediv _ _).symm
    have e7 : IntKind.u64.wrap ((v : Int) - IntKind.u64.wrap ((q : Int) * (y1 : Int))) = (r : Int) := by
      have a := i0.eq
      have c : v < 18446744073709551616 := by have := Hup.out; have := K2.ul; rw [HeY.out] at this; omega
      have b : (q : Int) * (y1 : Int) = ((q * y1 : Nat) : Int) := (Int.natCast_mul _ _).symm
      rw [b, wrapN _ (by omega)]
      generalize q * y1 = X at a
      rw [IntKind.wrap_u64]; omega
    have lq : q < 8589934592 := i0.q_lt K2
    have e8 : IntKind.u64.wrap (q : Int) = (q : Int) := wrapN _ (by omega)
    have HK2 := Lib.hid K2; have Hj0 := Lib.hid i0
    clear hq hr K2 i0
    go_upto_block 2 with (simp only [f1, e6, e7, e8])
    clear e6 e7 e8 f1
    go_cut [18] from 94 (fun a wc => a = .int .u64 ((v * 4294967296 + u0) / Y : Nat) ∧ w = wc)
    case first =>
      go_wp2_with (fail)
      go_loop [18, 16] (fun a b => ∃ q r : Nat, a = .int .u64 q ∧ b = .int .u64 r ∧ KInv y1 y0 v u0 q r) (fun a _ => (intOf a).toNat)
      case atStart => exact ⟨q, r, rfl, rfl, Hj0.out⟩
      case round =>
        clear Hj0 lq
        obtain ⟨q, r, rfl, rfl, k⟩ := hrel
        have lq := k.q_lt HK2.out
        have lr := k.r32
        have Hk := Lib.hid k
        clear k
        by_cases hq : 4294967296 ≤ q
        · obtain ⟨n1, n2, n3⟩ := Hk.out.next HK2.out (Or.inl hq)
          have N2 := Lib.hid n2; have N3 := Lib.hid n3
          clear n2 n3
          have t1 : decide ((4294967296 : Int) ≤ (q : Int)) = true := by simp; omega
          have t2 : decide (4294967296 ≤ q) = true := by simp; omega
          by_cases hb : 4294967296 ≤ r + y1
          · have t4 : decide ((4294967296 : Int) ≤ (r : Int) + (y1 : Int)) = true := by simp; omega
            skip
            go_wp2
            go_meet
            case rel => exact ⟨val_int (by have h := kn_done HK2.out N2.out N3.out hb; rw [HeY.out] at h; rw [← h]; omega), rfl⟩
          · have t4 : decide ((4294967296 : Int) ≤ (r : Int) + (y1 : Int)) = false := by simp; omega
            skip
            go_wp2
            go_round
            case rel => exact ⟨q - 1, r + y1, by go_num, by go_num, ⟨N2.out, N3.out, by omega⟩⟩
            case measure => simp [intOf]; omega
        · have t1 : decide ((4294967296 : Int) ≤ (q : Int)) = false := by simp; omega
          have t2 : decide (4294967296 ≤ q) = false := by simp; omega
          obtain ⟨A, hA⟩ : ∃ A, A = q * y0 := ⟨_, rfl⟩
          obtain ⟨B, hB⟩ : ∃ B, B = 4294967296 * r := ⟨_, rfl⟩
          obtain ⟨D, hD⟩ : ∃ D, D = B + u0 := ⟨_, rfl⟩
          have kA : IntKind.u64.wrap ((q : Int) * (y0 : Int)) = (A : Int) := by rw [hA, ← Int.natCast_mul]; exact wrapN _ (mul32 (by omega) l3)
          have kB : IntKind.u64.wrap (4294967296 * (r : Int)) = (B : Int) := by rw [hB, IntKind.wrap_u64]; omega
          have kD : IntKind.u64.wrap ((B : Int) + (u0 : Int)) = (D : Int) := by rw [hD, IntKind.wrap_u64]; omega
          have HA := Lib.hid hA; have HB := Lib.hid hB; have HD := Lib.hid hD
          clear hA hB hD
          by_cases hc : D < A
          · obtain ⟨n1, n2, n3⟩ := Hk.out.next HK2.out (Or.inr (by rw [← HB.out, ← HD.out, ← HA.out]; exact hc))
            have N2 := Lib.hid n2; have N3 := Lib.hid n3
            clear n2 n3
            have t5 : decide ((D : Int) < (A : Int)) = true := by simp; omega
            have t6 : decide (D < A) = true := by simp; omega
            by_cases hb : 4294967296 ≤ r + y1
            · have t4 : decide ((4294967296 : Int) ≤ (r : Int) + (y1 : Int)) = true := by simp; omega
              skip
              go_wp2
              go_meet
              case rel => exact ⟨val_int (by have h := kn_done HK2.out N2.out N3.out hb; rw [HeY.out] at h; rw [← h]; omega), rfl⟩
            · have t4 : decide ((4294967296 : Int) ≤ (r : Int) + (y1 : Int)) = false := by simp; omega
              skip
              go_wp2
              go_round
              case rel => exact ⟨q - 1, r + y1, by go_num, by go_num, ⟨N2.out, N3.out, by omega⟩⟩
              case measure => simp [intOf]; omega
          · have t5 : decide ((D : Int) < (A : Int)) = false := by simp; omega
            have t6 : decide (D < A) = false := by simp; omega
            go_wp2
            go_meet
            case rel => exact ⟨val_int (by have h := Hk.out.done HK2.out (by rw [← HB.out, ← HD.out, ← HA.out]; omega); rw [HeY.out] at h; rw [← h]), rfl⟩
    case rest =>
      obtain ⟨rfl, rfl⟩ := hcut
      obtain ⟨q2, hq2⟩ : ∃ q2, q2 = (v * 4294967296 + u0) / Y := ⟨_, rfl⟩
      obtain ⟨R, hR⟩ : ∃ R, R = (v * 4294967296 + u0) % Y := ⟨_, rfl⟩
      have f1 : IntKind.u64.wrap (IntKind.u64.wrap (IntKind.u64.wrap ((v : Int) * 4294967296) + (u0 : Int)) - IntKind.u64.wrap ((q2 : Int) * (Y : Int))) = (R : Int) := by
        rw [hR]; exact kn_rem (by have := Hlo.out; omega) (by have := Hup.out; omega) hq2
      have f2 : (R : Int) / 2 ^ s = (((hi * 18446744073709551616 + lo) % y : Nat) : Int) := by
        rw [shr_cast, hR, Hv.out, two_steps, Hu1.out, Hu0.out, show ul / 4294967296 * 4294967296 + ul % 4294967296 = ul from Nat.div_add_mod' ul 4294967296, Hsh.out, HY.out, unshift]
      rw [← hq2]
      have HR := Lib.hid hR
      clear hq2 hR
      go_wp2_with (simp only [f1, f2])
      go_ret2
      exact ⟨_, rfl, rfl⟩
end Go.Proofs.YtogbdnecpdcmiabDoor
/-
  Products modulo a number: word.mul and prime.mul.
-/
namespace Go.Proofs.YtogbdnecpdcmiabDoor
open Go Go.RowKit

/-- The call returns v; of what was there before nothing has turned. -/
def Ret (v : Value) (w : World) (e : Ending) (w' : World) : Prop := e = .returned v ∧ Below w.heap.size w w'
theorem below_drewN (w : World) (n : Nat) : Below w.heap.size w (w.drewN n) := ⟨rfl, rfl, rfl, Nat.le_refl _, fun _ _ => rfl⟩
theorem below_next {a b c : World} (h : Below a.heap.size a b) (k : Below b.heap.size b c) : Below a.heap.size a c := h.trans (k.mono h.size)
theorem ret_of {v v' : Value} {w w' : World} (h : v = v') (k : Below w.heap.size w w') : Ret v w (.returned v') w' := ⟨by rw [h], k⟩
/-- Nothing has turned but the count of the draws. -/
def Drew (w w' : World) : Prop := ∃ n, w' = w.drewN n
theorem Drew.refl (w : World) : Drew w w := ⟨0, rfl⟩
theorem drew_next {a b c : World} (h : Drew a b) (k : Drew b c) : Drew a c := by
  obtain ⟨n, rfl⟩ := h
  obtain ⟨m, rfl⟩ := k
  exact ⟨n + m, World.drewN_drewN _ _ _⟩
theorem Drew.below {w w' : World} (h : Drew w w') : Below w.heap.size w w' := by
  obtain ⟨n, rfl⟩ := h
  exact below_drewN w n
/-- The call returns v; nothing has turned. -/
def RetQ (v : Value) (w : World) (e : Ending) (w' : World) : Prop := e = .returned v ∧ Drew w w'
theorem retq_of {v v' : Value} {w w' : World} (h : v = v') (k : Drew w w') : RetQ v w (.returned v') w' := ⟨by rw [h], k⟩
theorem calls_ret {P : Program} {f : FuncId} {args : Array Value} {w : World} {v : Value} (h : Calls P f args w (RetQ v w)) : Calls P f args w (Ret v w) :=
  h.mono fun _ _ ⟨he, hd⟩ => ⟨he, hd.below⟩
theorem calls_quiet {P : Program} {f : FuncId} {args : Array Value} {w : World} {n : Nat} {v : Value} (h : Calls P f args (w.drewN n) (RetQ v (w.drewN n))) :
    Calls P f args (w.drewN n) fun e w'' => e = .returned v ∧ ∃ m, w'' = w.drewN m := Calls.quiet_of h
/-- the remainder of the division of 128 bits -/
theorem div64_any (hi lo y : Nat) (hy : hi < y) (hl : lo < 18446744073709551616) (hy2 : y < 18446744073709551616) (w : World) :
    Calls Tryd.prog 67 #[.int .u64 hi, .int .u64 lo, .int .u64 y] w fun e w' => ∃ q : Int, e = .returned (.tuple #[.int .u64 q, .int .u64 ((hi * 18446744073709551616 + lo) % y : Nat)]) ∧ Drew w w' := by
  rcases Nat.eq_zero_or_pos hi with rfl | h0
  · refine (div64_low lo y hy hl hy2 w).mono ?_
    rintro e w' ⟨rfl, n, rfl⟩
    exact ⟨_, by rw [Nat.zero_mul, Nat.zero_add], ⟨n, rfl⟩⟩
  · refine (div64_high hi lo y h0 hy hl hy2 w).mono ?_
    rintro e w' ⟨q, rfl, rfl⟩
    exact ⟨q, rfl, Drew.refl _⟩
theorem hi_lt {a b m : Nat} (ha : a < m) (hb : b < 18446744073709551616) : a * b / 18446744073709551616 < m := by
  rw [Nat.div_lt_iff_lt_mul (by decide)]
  have h1 : a * b ≤ a * 18446744073709551616 := Nat.mul_le_mul_left _ (by omega)
  omega
set_option maxRecDepth 100000 in
set_option maxHeartbeats 400000 in
theorem wmul_any (a b m : Nat) (ha : a < m) (hb : b < m) (hm : m ≤ 2305843009213693952) (w : World) :
    Calls Tryd.prog 44 #[.int .i64 a, .int .i64 b, .int .i64 m] w (RetQ (.int .i64 (a * b % m : Nat)) w) := by
  have h1 : a * b / 18446744073709551616 < m := hi_lt ha (by omega)
  have h2 : a * b % 18446744073709551616 < 18446744073709551616 := Nat.mod_lt _ (by decide)
  obtain ⟨hi, hhi⟩ : ∃ hi, hi = a * b / 18446744073709551616 := ⟨_, rfl⟩
  obtain ⟨lo, hlo⟩ : ∃ lo, lo = a * b % 18446744073709551616 := ⟨_, rfl⟩
  obtain ⟨R, hR⟩ : ∃ R, R = a * b % m := ⟨_, rfl⟩
  have hRm : R < m := by rw [hR]; exact Nat.mod_lt _ (by omega)
  have e0 : (hi * 18446744073709551616 + lo) % m = R := by rw [hhi, hlo, hR, Nat.div_add_mod' (a * b) 18446744073709551616]
  rw [← hhi] at h1
  rw [← hlo] at h2
  have E0 := Lib.hid e0; have Hhi := Lib.hid hhi; have Hlo := Lib.hid hlo; have H2 := Lib.hid h2
  rw [← hR]
  clear e0 hhi hlo h2 hR
  go_enter Tryd.func44, Tryd.ntmps44
  go_wp2_with (first
    | (go_at_call 66; refine (Tryd.bits_Mul64 a b (by omega) (by omega) _).mono ?_; rintro e w' ⟨rfl, rfl⟩; rw [← Hhi.out, ← Hlo.out])
    | (go_at_call 67; refine (div64_any hi lo m h1 H2.out (by omega) _).mono ?_; rintro e w' ⟨q, rfl, hb⟩; rw [E0.out]))
  go_ret
  exact retq_of rfl hb
end Go.Proofs.YtogbdnecpdcmiabDoor
/-
  Powers modulo a number by squaring, products by doubling: plain mathematics.
-/
namespace Go.Proofs.YtogbdnecpdcmiabDoor
open Go
/-- what a round of the power by squaring keeps -/
structure PInv (a e m a' e' x : Nat) : Prop where
  al : a' < m
  xl : x < m
  eq : (x * a' ^ e') % m = a ^ e % m
theorem PInv.start {a e m : Nat} (h : a < m) : PInv a e m a e (1 % m) :=
  ⟨h, Nat.mod_lt _ (by omega), by rw [Nat.mod_mul_mod, Nat.one_mul]⟩
theorem pow_half (a e : Nat) (h : e % 2 = 0) : a ^ e = (a * a) ^ (e / 2) := by
  rw [← Nat.pow_two, ← Nat.pow_mul]; congr 1; omega
theorem pow_half1 (a e : Nat) (h : e % 2 = 1) : a ^ e = a * (a * a) ^ (e / 2) := by
  rw [← Nat.pow_two, ← Nat.pow_mul, Nat.mul_comm a, ← Nat.pow_succ]; congr 1; omega
theorem mod_pow_mul (x a k m : Nat) : (x * (a % m) ^ k) % m = (x * a ^ k) % m := by
  rw [Nat.mul_mod, ← Nat.pow_mod, ← Nat.mul_mod]
theorem PInv.even {a e m a' e' x : Nat} (h : PInv a e m a' e' x) (he : e' % 2 = 0) : PInv a e m (a' * a' % m) (e' / 2) x := by
  refine ⟨Nat.mod_lt _ (by have := h.al; omega), h.xl, ?_⟩
  rw [mod_pow_mul, ← pow_half _ _ he]; exact h.eq
theorem PInv.odd {a e m a' e' x : Nat} (h : PInv a e m a' e' x) (he : e' % 2 = 1) : PInv a e m (a' * a' % m) (e' / 2) (x * a' % m) := by
  have hm : 0 < m := by have := h.al; omega
  refine ⟨Nat.mod_lt _ hm, Nat.mod_lt _ hm, ?_⟩
  rw [mod_pow_mul, Nat.mod_mul_mod, Nat.mul_assoc, ← pow_half1 _ _ he]; exact h.eq
theorem PInv.done {a e m a' x : Nat} (h : PInv a e m a' 0 x) : x = a ^ e % m := by
  have := h.eq
  rw [Nat.pow_zero, Nat.mul_one, Nat.mod_eq_of_lt h.xl] at this; exact this
/-- what a round of the product by doubling keeps -/
structure MInv (a b m a' b' x : Nat) : Prop where
  al : a' < m
  xl : x < m
  eq : (x + a' * b') % m = a * b % m
theorem MInv.start {a b m : Nat} (h : a < m) : MInv a b m a b 0 := ⟨h, by omega, by rw [Nat.zero_add]⟩
theorem mul_half (a b : Nat) (h : b % 2 = 0) : a * b = (a + a) * (b / 2) := by
  have : b = 2 * (b / 2) := by omega
  rw [this, Nat.mul_div_cancel_left _ (by decide)]; grind
theorem mul_half1 (a b : Nat) (h : b % 2 = 1) : a * b = a + (a + a) * (b / 2) := by
  obtain ⟨c, rfl⟩ : ∃ c, b = 2 * c + 1 := ⟨b / 2, by omega⟩
  rw [show (2 * c + 1) / 2 = c by omega]; grind
theorem add_mod_mul (x a k m : Nat) : (x + (a % m) * k) % m = (x + a * k) % m := by
  rw [Nat.add_mod, Nat.mod_mul_mod, ← Nat.add_mod]
theorem MInv.even {a b m a' b' x : Nat} (h : MInv a b m a' b' x) (hb : b' % 2 = 0) : MInv a b m ((a' + a') % m) (b' / 2) x := by
  refine ⟨Nat.mod_lt _ (by have := h.al; omega), h.xl, ?_⟩
  rw [add_mod_mul, ← mul_half _ _ hb]; exact h.eq
theorem MInv.odd {a b m a' b' x : Nat} (h : MInv a b m a' b' x) (hb : b' % 2 = 1) : MInv a b m ((a' + a') % m) (b' / 2) ((x + a') % m) := by
  have hm : 0 < m := by have := h.al; omega
  refine ⟨Nat.mod_lt _ hm, Nat.mod_lt _ hm, ?_⟩
  rw [add_mod_mul, Nat.mod_add_mod, Nat.add_assoc, ← mul_half1 _ _ hb]; exact h.eq
theorem MInv.done {a b m a' x : Nat} (h : MInv a b m a' 0 x) : x = a * b % m := by
  have := h.eq
  rw [Nat.mul_zero, Nat.add_zero, Nat.mod_eq_of_lt h.xl] at this; exact this
theorem and_one (e : Nat) (h : e < 9223372036854775808) : bits .and .i64 (e : Int) 1 = ((e % 2 : Nat) : Int) := by
  have h1 : (BitVec.ofInt 64 (e : Int)).toNat = e := by
    rw [BitVec.ofInt_natCast, BitVec.toNat_ofNat]; exact Nat.mod_eq_of_lt (by omega)
  have h2 : (BitVec.ofInt 64 (1 : Int)).toNat = 1 := by decide
  show IntKind.i64.wrap ((BitVec.ofInt 64 (e : Int) &&& BitVec.ofInt 64 (1 : Int)).toNat : Int) = _
  rw [BitVec.toNat_and, h1, h2, Nat.and_one_is_mod]
  have : e % 2 = 0 ∨ e % 2 = 1 := by omega
  rcases this with h | h <;> rw [h] <;> rfl
theorem and_one_u (e : Nat) (h : e < 18446744073709551616) : bits .and .u64 (e : Int) 1 = ((e % 2 : Nat) : Int) := by
  have := bits_and_u64_nat e 1 h (by omega)
  rw [Nat.and_one_is_mod] at this; exact this
theorem tmod_cases (a : Int) (m : Nat) (hm : 0 < m) : ∃ t : Int, a.tmod (m : Int) = t ∧ -(m : Int) < t ∧ t < (m : Int) ∧ (t < 0 → a % (m : Int) = t + (m : Int)) ∧ (0 ≤ t → a % (m : Int) = t) := by
  have h1 := Int.emod_nonneg a (show (m : Int) ≠ 0 by omega)
  have h2 := Int.emod_lt_of_pos a (show (0 : Int) < m by omega)
  refine ⟨_, rfl, ?_⟩
  rw [Int.tmod_eq_emod]
  split
  · omega
  · rename_i h
    have h3 : a % (m : Int) ≠ 0 := fun h0 => h (Or.inr (Int.dvd_of_emod_eq_zero h0))
    simp only [Int.natAbs_natCast]
    omega
end Go.Proofs.YtogbdnecpdcmiabDoor
/-
  The arithmetic of package word and of its reference, at residues.
-/
namespace Go.Proofs.YtogbdnecpdcmiabDoor
open Go Go.RowKit

theorem check_ok (a b m : Nat) (ha : a < m) (hb : b < m) (hm : m < 2305843009213693952) (w : World) :
    Calls Tryd.prog 42 #[.int .i64 a, .int .i64 b, .int .i64 m] w fun e w' => e = .returned (.int .i64 0) ∧ w = w' := by
  have h1 : ¬ (m : Int) < 1 := by omega
  have h2 : ¬ (2305843009213693952 : Int) ≤ (m : Int) := by omega
  have h3 : decide ((a : Int) < (m : Int)) = true := by simp; omega
  have h4 : decide ((b : Int) < (m : Int)) = true := by simp; omega
  have h5 : decide (a < m) = true := by simp; omega
  have h6 : decide (b < m) = true := by simp; omega
  go_enter Tryd.func42, Tryd.ntmps42
  go_wp2
  go_ret
  exact ⟨rfl, rfl⟩
theorem tup0 {a b : Int} (h : a = b) : Value.tuple #[.int .i64 a, .int .i64 0] = .tuple #[.int .i64 b, .int .i64 0] := by rw [h]
theorem nat_mod_mul (a b m : Nat) : Value.int .i64 ((a : Int) * (b : Int) % (m : Int)) = Value.int .i64 ((a * b % m : Nat) : Int) := by rw [Int.natCast_emod, Int.natCast_mul]
theorem dec_lt {a b : Nat} (h : a < b) : decide ((a : Int) < (b : Int)) = true := by simp; omega
theorem dec_nlt {a b : Nat} (h : b ≤ a) : decide ((a : Int) < (b : Int)) = false := by simp; omega
set_option maxHeartbeats 400000 in
theorem wadd_any (a b m : Nat) (ha : a < m) (hb : b < m) (hm : m < 2305843009213693952) (w : World) :
    Calls Tryd.prog 39 #[.int .i64 a, .int .i64 b, .int .i64 m] w (RetQ (.tuple #[.int .i64 ((a + b) % m : Nat), .int .i64 0]) w) := by
  have h0 : ¬ (m : Int) = 0 := by omega
  go_enter Tryd.func39, Tryd.ntmps39
  go_wp2_with (go_at_call 42; refine (check_ok _ _ _ ha hb hm _).mono ?_; rintro e w' ⟨rfl, rfl⟩)
  go_ret2
  exact retq_of (tup0 (by rw [Int.natCast_emod, Int.natCast_add])) (Drew.refl _)
set_option maxHeartbeats 400000 in
theorem wMul_any (a b m : Nat) (ha : a < m) (hb : b < m) (hm : m < 2305843009213693952) (w : World) :
    Calls Tryd.prog 18 #[.int .i64 a, .int .i64 b, .int .i64 m] w (RetQ (.tuple #[.int .i64 (a * b % m : Nat), .int .i64 0]) w) := by
  obtain ⟨R, hR⟩ : ∃ R, R = a * b % m := ⟨_, rfl⟩
  have HR := Lib.hid hR
  rw [← hR]
  clear hR
  go_enter Tryd.func18, Tryd.ntmps18
  go_wp2_with (first
    | (go_at_call 42; refine (check_ok _ _ _ ha hb hm _).mono ?_; rintro e w' ⟨rfl, rfl⟩)
    | (go_at_call 44; refine (wmul_any _ _ _ ha hb (by omega) _).mono ?_; rintro e w' ⟨rfl, hw⟩; rw [← HR.out]))
  go_ret2
  exact retq_of rfl hw
set_option maxHeartbeats 400000 in
theorem wreduce_any (a : Int) (m : Nat) (h1 : 1 ≤ m) (hm : m < 2305843009213693952) (w : World) :
    Calls Tryd.prog 46 #[.int .i64 a, .int .i64 m] w (RetQ (.tuple #[.int .i64 (a % (m : Int)), .int .i64 0]) w) := by
  have h0 : ¬ (m : Int) = 0 := by omega
  obtain ⟨t, e, t1, t2, t3, t4⟩ := tmod_cases a m (by omega)
  by_cases ht : t < 0
  · have T := Lib.hid (t3 ht)
    clear t3 t4
    go_enter Tryd.func46, Tryd.ntmps46
    go_wp2_with (go_at_call 42; refine (check_ok 0 0 _ (by omega) (by omega) hm _).mono ?_; rintro e w' ⟨rfl, rfl⟩)
    go_ret2
    exact retq_of (tup0 (T.out)) (Drew.refl _)
  · have T := Lib.hid (t4 (by omega))
    clear t3 t4
    go_enter Tryd.func46, Tryd.ntmps46
    go_wp2_with (go_at_call 42; refine (check_ok 0 0 _ (by omega) (by omega) hm _).mono ?_; rintro e w' ⟨rfl, rfl⟩)
    go_ret2
    exact retq_of (tup0 (T.out)) (Drew.refl _)
set_option maxHeartbeats 400000 in
theorem rreduce_any (a : Int) (m : Nat) (h1 : 1 ≤ m) (hm : m < 2305843009213693952) (w : World) :
    Calls Tryd.prog 17 #[.int .i64 a, .int .i64 m] w (RetQ (.int .i64 (a % (m : Int))) w) := by
  have h0 : ¬ (m : Int) = 0 := by omega
  obtain ⟨t, e, t1, t2, t3, t4⟩ := tmod_cases a m (by omega)
  by_cases ht : t < 0
  · have T := Lib.hid (t3 ht)
    clear t3 t4
    go_enter Tryd.func17, Tryd.ntmps17
    go_wp2_with (fail)
    go_ret
    exact retq_of (val_int (T.out)) (Drew.refl _)
  · have T := Lib.hid (t4 (by omega))
    clear t3 t4
    go_enter Tryd.func17, Tryd.ntmps17
    go_wp2_with (fail)
    go_ret
    exact retq_of (val_int (T.out)) (Drew.refl _)
set_option maxRecDepth 100000 in
set_option maxHeartbeats 1000000 in
theorem wpow_any (a e m : Nat) (ha : a < m) (he : e < 9223372036854775808) (hm : m < 2305843009213693952) (w : World) :
    Calls Tryd.prog 30 #[.int .i64 a, .int .i64 e, .int .i64 m] w (RetQ (.tuple #[.int .i64 (a ^ e % m : Nat), .int .i64 0]) w) := by
  have h0 : ¬ (m : Int) = 0 := by omega
  have h2 : ¬ (e : Int) < 0 := by omega
  obtain ⟨o, ho⟩ : ∃ o, o = 1 % m := ⟨_, rfl⟩
  have e1 : (1 : Int) % (m : Int) = (o : Int) := by rw [ho]; rfl
  have hom : o < m := by rw [ho]; exact Nat.mod_lt _ (by omega)
  have Ho := Lib.hid ho
  clear ho
  obtain ⟨R, hR⟩ : ∃ R, R = a ^ e % m := ⟨_, rfl⟩
  have HR := Lib.hid hR
  rw [← hR]
  clear hR
  go_enter Tryd.func30, Tryd.ntmps30
  go_wp2_with (first
    | (go_at_call 42; refine (check_ok _ _ _ ha ha hm _).mono ?_; rintro e w' ⟨rfl, rfl⟩))
  simp only [e1]
  clear e1
  go_loopw [0, 1, 9] (fun va ve vx wr => ∃ a' e' x : Nat, va = .int .i64 a' ∧ ve = .int .i64 e' ∧ vx = .int .i64 x ∧ e' ≤ e ∧ PInv a e m a' e' x ∧ Drew w wr) (fun _ ve _ _ => (intOf ve).toNat)
  case atStart => exact ⟨a, e, o, rfl, rfl, rfl, Nat.le_refl _, by rw [Ho.out]; exact PInv.start ha, Drew.refl _⟩
  case round =>
    obtain ⟨a', e', x, rfl, rfl, rfl, hle, hp, hb⟩ := hrel
    have HP := Lib.hid hp
    have hal := hp.al
    have hxl := hp.xl
    clear hp
    by_cases hz : e' = 0
    · subst hz
      go_wp2
      go_ret2
      exact retq_of (tup0 (by rw [HR.out, HP.out.done])) hb
    · have hpos : 0 < e' := by omega
      have ea := and_one e' (by omega)
      by_cases hodd : e' % 2 = 1
      · rw [hodd] at ea
        have HO := Lib.hid hodd
        clear hodd hz
        go_wp2_with (go_at_call 44; refine (wmul_any _ _ _ (by assumption) (by assumption) (by omega) _).mono ?_; rintro e w' ⟨rfl, hw⟩; have hb := drew_next hb hw; clear hw)
        go_roundw
        case rel => exact ⟨_, e' / 2, _, nat_mod_mul _ _ _, by go_num, nat_mod_mul _ _ _, by omega, HP.out.odd HO.out, hb⟩
        case measure => simp [intOf]; omega
      · have hev : e' % 2 = 0 := by omega
        rw [hev] at ea
        have HO := Lib.hid hev
        clear hodd hz hev
        go_wp2_with (go_at_call 44; refine (wmul_any _ _ _ (by assumption) (by assumption) (by omega) _).mono ?_; rintro e w' ⟨rfl, hw⟩; have hb := drew_next hb hw; clear hw)
        go_roundw
        case rel => exact ⟨_, e' / 2, _, nat_mod_mul _ _ _, by go_num, rfl, by omega, HP.out.even HO.out, hb⟩
        case measure => simp [intOf]; omega
end Go.Proofs.YtogbdnecpdcmiabDoor
/-
  Products and powers: the reference's, and package prime's.
-/
namespace Go.Proofs.YtogbdnecpdcmiabDoor
open Go Go.RowKit

theorem nat_mod_add (a b m : Nat) : Value.int .i64 (((a : Int) + (b : Int)) % (m : Int)) = Value.int .i64 (((a + b) % m : Nat) : Int) := by rw [Int.natCast_emod, Int.natCast_add]
theorem small_mul {a b : Nat} (ha : a < 2147483648) (hb : b < 2147483648) : (a : Int) * (b : Int) ≤ 4611686018427387904 ∧ 0 ≤ (a : Int) * (b : Int) := by
  have h : a * b ≤ 2147483648 * 2147483648 := Nat.mul_le_mul (by omega) (by omega)
  have e : (a : Int) * (b : Int) = ((a * b : Nat) : Int) := (Int.natCast_mul a b).symm
  rw [e]; omega
set_option maxRecDepth 100000 in
set_option maxHeartbeats 1000000 in
theorem rmul_any (a b m : Nat) (ha : a < m) (hb : b < m) (hm : m < 2305843009213693952) (w : World) :
    Calls Tryd.prog 50 #[.int .i64 a, .int .i64 b, .int .i64 m] w (RetQ (.int .i64 (a * b % m : Nat)) w) := by
  have h0 : ¬ (m : Int) = 0 := by omega
  obtain ⟨R, hR⟩ : ∃ R, R = a * b % m := ⟨_, rfl⟩
  have HR := Lib.hid hR
  rw [← hR]
  clear hR
  by_cases hs : a < 2147483648 ∧ b < 2147483648
  · obtain ⟨s1, s2⟩ := hs
    obtain ⟨u1, u2⟩ := small_mul s1 s2
    have t1 : decide ((a : Int) < 2147483648) = true := by simp; omega
    have t2 : decide ((b : Int) < 2147483648) = true := by simp; omega
    go_enter Tryd.func50, Tryd.ntmps50
    go_wp2
    go_ret
    exact retq_of (val_int (by rw [HR.out, Int.natCast_emod, Int.natCast_mul])) (Drew.refl _)
  · have t3 : (decide ((a : Int) < 2147483648) && decide ((b : Int) < 2147483648)) = false := by
      rw [Bool.and_eq_false_iff]; simp; omega
    by_cases s1 : a < 2147483648
    · have t1 : decide ((a : Int) < 2147483648) = true := by simp; omega
      have t2 : decide ((b : Int) < 2147483648) = false := by simp; omega
      clear hs t3
      go_enter Tryd.func50, Tryd.ntmps50
      go_wp2
      clear s1 t1 t2
      go_loop [0, 1, 7] (fun va vb vx => ∃ a' b' x : Nat, va = .int .i64 a' ∧ vb = .int .i64 b' ∧ vx = .int .i64 x ∧ b' ≤ b ∧ MInv a b m a' b' x) (fun _ vb _ => (intOf vb).toNat)
      case atStart => exact ⟨a, b, 0, rfl, rfl, rfl, Nat.le_refl _, MInv.start ha⟩
      case round =>
        obtain ⟨a', b', x, rfl, rfl, rfl, hle, hp⟩ := hrel
        have HP := Lib.hid hp
        have hal := hp.al
        have hxl := hp.xl
        clear hp
        by_cases hz : b' = 0
        · subst hz
          go_wp2
          go_ret
          exact retq_of (val_int (by rw [HR.out, HP.out.done])) (Drew.refl _)
        · have hpos : 0 < b' := by omega
          by_cases hodd : b' % 2 = 1
          · have ea : ((b' : Int) % 2 == 1) = true := by simp; omega
            have eb : (b' : Int) % 2 = 1 := by omega
            have HO := Lib.hid hodd
            clear hodd hz
            go_wp2
            go_round
            case rel => exact ⟨_, b' / 2, _, nat_mod_add _ _ _, by go_num, nat_mod_add _ _ _, by omega, HP.out.odd HO.out⟩
            case measure => simp [intOf]; omega
          · have hev : b' % 2 = 0 := by omega
            have eb : (b' : Int) % 2 = 0 := by omega
            have HO := Lib.hid hev
            clear hodd hz hev
            go_wp2
            go_round
            case rel => exact ⟨_, b' / 2, _, nat_mod_add _ _ _, by go_num, rfl, by omega, HP.out.even HO.out⟩
            case measure => simp [intOf]; omega
    · have t1 : decide ((a : Int) < 2147483648) = false := by simp; omega
      clear hs t3
      go_enter Tryd.func50, Tryd.ntmps50
      go_wp2
      clear s1 t1
      go_loop [0, 1, 7] (fun va vb vx => ∃ a' b' x : Nat, va = .int .i64 a' ∧ vb = .int .i64 b' ∧ vx = .int .i64 x ∧ b' ≤ b ∧ MInv a b m a' b' x) (fun _ vb _ => (intOf vb).toNat)
      case atStart => exact ⟨a, b, 0, rfl, rfl, rfl, Nat.le_refl _, MInv.start ha⟩
      case round =>
        obtain ⟨a', b', x, rfl, rfl, rfl, hle, hp⟩ := hrel
        have HP := Lib.hid hp
        have hal := hp.al
        have hxl := hp.xl
        clear hp
        by_cases hz : b' = 0
        · subst hz
          go_wp2
          go_ret
          exact retq_of (val_int (by rw [HR.out, HP.out.done])) (Drew.refl _)
        · have hpos : 0 < b' := by omega
          by_cases hodd : b' % 2 = 1
          · have ea : ((b' : Int) % 2 == 1) = true := by simp; omega
            have eb : (b' : Int) % 2 = 1 := by omega
            have HO := Lib.hid hodd
            clear hodd hz
            go_wp2
            go_round
            case rel => exact ⟨_, b' / 2, _, nat_mod_add _ _ _, by go_num, nat_mod_add _ _ _, by omega, HP.out.odd HO.out⟩
            case measure => simp [intOf]; omega
          · have hev : b' % 2 = 0 := by omega
            have eb : (b' : Int) % 2 = 0 := by omega
            have HO := Lib.hid hev
            clear hodd hz hev
            go_wp2
            go_round
            case rel => exact ⟨_, b' / 2, _, nat_mod_add _ _ _, by go_num, rfl, by omega, HP.out.even HO.out⟩
            case measure => simp [intOf]; omega
set_option maxRecDepth 100000 in
set_option maxHeartbeats 1000000 in
theorem rpow_any (a e m : Nat) (ha : a < m) (he : e < 9223372036854775808) (hm : m < 2305843009213693952) (w : World) :
    Calls Tryd.prog 32 #[.int .i64 a, .int .i64 e, .int .i64 m] w (RetQ (.int .i64 (a ^ e % m : Nat)) w) := by
  have h0 : ¬ (m : Int) = 0 := by omega
  obtain ⟨o, ho⟩ : ∃ o, o = 1 % m := ⟨_, rfl⟩
  have e1 : (1 : Int) % (m : Int) = (o : Int) := by rw [ho]; rfl
  have hom : o < m := by rw [ho]; exact Nat.mod_lt _ (by omega)
  have Ho := Lib.hid ho
  clear ho
  obtain ⟨R, hR⟩ : ∃ R, R = a ^ e % m := ⟨_, rfl⟩
  have HR := Lib.hid hR
  rw [← hR]
  clear hR
  go_enter Tryd.func32, Tryd.ntmps32
  go_wp2
  simp only [e1]
  clear e1
  go_loopw [0, 1, 7] (fun va ve vx wr => ∃ a' e' x : Nat, va = .int .i64 a' ∧ ve = .int .i64 e' ∧ vx = .int .i64 x ∧ e' ≤ e ∧ PInv a e m a' e' x ∧ Drew w wr) (fun _ ve _ _ => (intOf ve).toNat)
  case atStart => exact ⟨a, e, o, rfl, rfl, rfl, Nat.le_refl _, by rw [Ho.out]; exact PInv.start ha, Drew.refl _⟩
  case round =>
    obtain ⟨a', e', x, rfl, rfl, rfl, hle, hp, hb⟩ := hrel
    have HP := Lib.hid hp
    have hal := hp.al
    have hxl := hp.xl
    clear hp
    by_cases hz : e' = 0
    · subst hz
      go_wp2
      go_ret
      exact retq_of (val_int (by rw [HR.out, HP.out.done])) hb
    · have hpos : 0 < e' := by omega
      have hq : (e' : Int) % 2 = ((e' % 2 : Nat) : Int) := by omega
      by_cases hodd : e' % 2 = 1
      · have eb : (e' : Int) % 2 = 1 := by omega
        clear hq
        have HO := Lib.hid hodd
        clear hodd hz
        go_wp2_with (go_at_call 50; refine (rmul_any _ _ _ (by assumption) (by assumption) hm _).mono ?_; rintro e w' ⟨rfl, hw⟩; have hb := drew_next hb hw; clear hw)
        go_roundw
        case rel => exact ⟨_, e' / 2, _, nat_mod_mul _ _ _, by go_num, nat_mod_mul _ _ _, by omega, HP.out.odd HO.out, hb⟩
        case measure => simp [intOf]; omega
      · have hev : e' % 2 = 0 := by omega
        have eb : (e' : Int) % 2 = 0 := by omega
        clear hq
        have HO := Lib.hid hev
        clear hodd hz hev
        go_wp2_with (go_at_call 50; refine (rmul_any _ _ _ (by assumption) (by assumption) hm _).mono ?_; rintro e w' ⟨rfl, hw⟩; have hb := drew_next hb hw; clear hw)
        go_roundw
        case rel => exact ⟨_, e' / 2, _, nat_mod_mul _ _ _, by go_num, rfl, by omega, HP.out.even HO.out, hb⟩
        case measure => simp [intOf]; omega

/-- products and powers of package prime, of unsigned numbers -/
theorem nat_mod_mul_u (a b m : Nat) : Value.int .u64 ((a : Int) * (b : Int) % (m : Int)) = Value.int .u64 ((a * b % m : Nat) : Int) := by rw [Int.natCast_emod, Int.natCast_mul]
set_option maxRecDepth 100000 in
set_option maxHeartbeats 400000 in
theorem pmul_any (a b m : Nat) (ha : a < m) (hb : b < m) (hm : m ≤ 9223372036854775808) (w : World) :
    Calls Tryd.prog 73 #[.int .u64 a, .int .u64 b, .int .u64 m] w (RetQ (.int .u64 (a * b % m : Nat)) w) := by
  have h1 : a * b / 18446744073709551616 < m := hi_lt ha (by omega)
  have h2 : a * b % 18446744073709551616 < 18446744073709551616 := Nat.mod_lt _ (by decide)
  obtain ⟨hi, hhi⟩ : ∃ hi, hi = a * b / 18446744073709551616 := ⟨_, rfl⟩
  obtain ⟨lo, hlo⟩ : ∃ lo, lo = a * b % 18446744073709551616 := ⟨_, rfl⟩
  obtain ⟨R, hR⟩ : ∃ R, R = a * b % m := ⟨_, rfl⟩
  have hRm : R < m := by rw [hR]; exact Nat.mod_lt _ (by omega)
  have e0 : (hi * 18446744073709551616 + lo) % m = R := by rw [hhi, hlo, hR, Nat.div_add_mod' (a * b) 18446744073709551616]
  rw [← hhi] at h1
  rw [← hlo] at h2
  have E0 := Lib.hid e0; have Hhi := Lib.hid hhi; have Hlo := Lib.hid hlo; have H2 := Lib.hid h2
  rw [← hR]
  clear e0 hhi hlo h2 hR
  go_enter Tryd.func73, Tryd.ntmps73
  go_wp2_with (first
    | (go_at_call 66; refine (Tryd.bits_Mul64 a b (by omega) (by omega) _).mono ?_; rintro e w' ⟨rfl, rfl⟩; rw [← Hhi.out, ← Hlo.out])
    | (go_at_call 67; refine (div64_any hi lo m h1 H2.out (by omega) _).mono ?_; rintro e w' ⟨q, rfl, hb⟩; rw [E0.out]))
  go_ret
  exact retq_of rfl hb
set_option maxRecDepth 100000 in
set_option maxHeartbeats 1000000 in
theorem ppow_any (a e m : Nat) (ha : a < m) (h1 : 1 < m) (he : e < 9223372036854775808) (hm : m ≤ 9223372036854775808) (w : World) :
    Calls Tryd.prog 72 #[.int .u64 a, .int .u64 e, .int .u64 m] w (RetQ (.int .u64 (a ^ e % m : Nat)) w) := by
  obtain ⟨R, hR⟩ : ∃ R, R = a ^ e % m := ⟨_, rfl⟩
  have HR := Lib.hid hR
  rw [← hR]
  clear hR
  go_enter Tryd.func72, Tryd.ntmps72
  go_wp2
  go_loopw [0, 1, 7] (fun va ve vx wr => ∃ a' e' x : Nat, va = .int .u64 a' ∧ ve = .int .u64 e' ∧ vx = .int .u64 x ∧ e' ≤ e ∧ PInv a e m a' e' x ∧ Drew w wr) (fun _ ve _ _ => (intOf ve).toNat)
  case atStart => exact ⟨a, e, 1, rfl, rfl, rfl, Nat.le_refl _, by have := PInv.start (e := e) ha; rwa [Nat.mod_eq_of_lt h1] at this, Drew.refl _⟩
  case round =>
    obtain ⟨a', e', x, rfl, rfl, rfl, hle, hp, hb⟩ := hrel
    have HP := Lib.hid hp
    have hal := hp.al
    have hxl := hp.xl
    clear hp
    by_cases hz : e' = 0
    · subst hz
      go_wp2
      go_ret
      exact retq_of (val_int (by rw [HR.out, HP.out.done])) hb
    · have hpos : 0 < e' := by omega
      have ea := and_one_u e' (by omega)
      by_cases hodd : e' % 2 = 1
      · rw [hodd] at ea
        have HO := Lib.hid hodd
        clear hodd hz
        go_wp2_with (go_at_call 73; refine (pmul_any _ _ _ (by assumption) (by assumption) hm _).mono ?_; rintro e w' ⟨rfl, hw⟩; have hb := drew_next hb hw; clear hw)
        go_roundw
        case rel => exact ⟨_, e' / 2, _, nat_mod_mul_u _ _ _, by go_num, nat_mod_mul_u _ _ _, by omega, HP.out.odd HO.out, hb⟩
        case measure => simp [intOf]; omega
      · have hev : e' % 2 = 0 := by omega
        rw [hev] at ea
        have HO := Lib.hid hev
        clear hodd hz hev
        go_wp2_with (go_at_call 73; refine (pmul_any _ _ _ (by assumption) (by assumption) hm _).mono ?_; rintro e w' ⟨rfl, hw⟩; have hb := drew_next hb hw; clear hw)
        go_roundw
        case rel => exact ⟨_, e' / 2, _, nat_mod_mul_u _ _ _, by go_num, rfl, by omega, HP.out.even HO.out, hb⟩
        case measure => simp [intOf]; omega
end Go.Proofs.YtogbdnecpdcmiabDoor
