/-
  The strong test, by the program and by the reference.
-/
import Derived.Test.YtogbdnecpdcmiabDoorJ1
import Derived.Lib.TrailingZeros
import Derived.Laws.Rows
/-
  The strong test for one base, and the test for all of them: plain mathematics.
-/
namespace Go.Proofs.YtogbdnecpdcmiabDoor
open Go
/-- n - 1 = 2^s d: n passes the strong test for a. -/
def Passes (n s d a : Nat) : Prop := a ^ d % n = 1 ∨ ∃ i, i < s ∧ a ^ (2 ^ i * d) % n = n - 1
open Classical in
noncomputable def compB (n s d a : Nat) : Bool := decide (¬ Passes n s d a)
theorem compB_true {n s d a : Nat} : compB n s d a = true ↔ ¬ Passes n s d a := by unfold compB; simp
theorem compB_false {n s d a : Nat} : compB n s d a = false ↔ Passes n s d a := by unfold compB; simp
/-- what the squarings keep -/
structure SInv (n s d a i x : Nat) : Prop where
  eq : x = a ^ (2 ^ i * d) % n
  one : a ^ d % n ≠ 1
  no : ∀ j, j ≤ i → a ^ (2 ^ j * d) % n ≠ n - 1
theorem SInv.start {n s d a x : Nat} (h : x = a ^ d % n) (h1 : x ≠ 1) (h2 : x ≠ n - 1) : SInv n s d a 0 x :=
  ⟨by rw [h, Nat.pow_zero, Nat.one_mul], by rw [← h]; exact h1, fun j hj => by
    have : j = 0 := by omega
    subst this
    rw [Nat.pow_zero, Nat.one_mul, ← h]; exact h2⟩
theorem sq_step {n d a i : Nat} : (a ^ (2 ^ i * d) % n) * (a ^ (2 ^ i * d) % n) % n = a ^ (2 ^ (i + 1) * d) % n := by
  rw [← Nat.mul_mod, ← Nat.pow_add]; congr 2; rw [Nat.pow_succ]; grind
theorem SInv.next {n s d a i x : Nat} (h : SInv n s d a i x) (h2 : x * x % n ≠ n - 1) : SInv n s d a (i + 1) (x * x % n) := by
  have e : x * x % n = a ^ (2 ^ (i + 1) * d) % n := by rw [h.eq, sq_step]
  refine ⟨e, h.one, fun j hj => ?_⟩
  rcases Nat.eq_or_lt_of_le hj with rfl | hj
  · rw [← e]; exact h2
  · exact h.no j (by omega)
theorem SInv.hit {n s d a i x : Nat} (h : SInv n s d a i x) (h2 : x * x % n = n - 1) (hi : i + 1 < s) : Passes n s d a :=
  Or.inr ⟨i + 1, hi, by rw [← sq_step, ← h.eq]; exact h2⟩
theorem SInv.done {n s d a i x : Nat} (h : SInv n s d a i x) (hi : s ≤ i + 1) : ¬ Passes n s d a := by
  rintro (h1 | ⟨j, hj, h1⟩)
  · exact h.one h1
  · exact h.no j (by omega) h1
theorem passes_first {n s d a x : Nat} (hs : 0 < s) (h : x = a ^ d % n) (h1 : x = 1 ∨ x = n - 1) : Passes n s d a := by
  rcases h1 with h1 | h1
  · exact Or.inl (by rw [← h]; exact h1)
  · exact Or.inr ⟨0, hs, by rw [Nat.pow_zero, Nat.one_mul, ← h]; exact h1⟩
/-- the bases of the strong test -/
def basesL : List Nat := [2, 3, 5, 7, 11, 13, 17, 19, 23, 29, 31, 37]
def bse (i : Nat) : Nat := basesL.getD i 0
theorem bse_all : ∀ i, i < 12 → 2 ≤ bse i ∧ bse i ≤ 37 ∧ ∀ j, j < 12 → bse j % bse i = 0 → bse j = bse i := by decide +kernel
theorem bse_pos {i : Nat} (h : i < 12) : 0 < bse i := by have := (bse_all i h).1; omega
/-- What the test answers. -/
def IsSpec (n : Nat) : Prop := 2 ≤ n ∧ ((∃ i, i < 12 ∧ n = bse i) ∨ ((∀ i, i < 12 → n % bse i ≠ 0) ∧ ∀ i, i < 12 → ∀ s d, n - 1 = 2 ^ s * d → d % 2 = 1 → Passes n s d (bse i)))
open Classical in
noncomputable def isB (n : Nat) : Bool := decide (IsSpec n)
theorem isB_true {n : Nat} : isB n = true ↔ IsSpec n := by unfold isB; simp
theorem isB_false {n : Nat} : isB n = false ↔ ¬ IsSpec n := by unfold isB; simp
theorem isB_base {n i : Nat} (h : i < 12) (e : n = bse i) : isB n = true := isB_true.2 ⟨by rw [e]; exact (bse_all i h).1, Or.inl ⟨i, h, e⟩⟩
theorem isB_div {n i : Nat} (h : i < 12) (hd : n % bse i = 0) (hne : n ≠ bse i) : isB n = false := by
  rw [isB_false]
  rintro ⟨_, ⟨j, hj, e⟩ | ⟨h1, _⟩⟩
  · subst e; exact hne ((bse_all i h).2.2 j hj hd)
  · exact h1 i h hd
theorem isB_small {n : Nat} (h : n < 2) : isB n = false := by rw [isB_false]; rintro ⟨h1, _⟩; omega
/-- the first i bases do not divide n -/
def Undiv (n i : Nat) : Prop := ∀ j, j < i → n % bse j ≠ 0
theorem Undiv.zero (n : Nat) : Undiv n 0 := fun j hj => by omega
theorem Undiv.next {n i : Nat} (h : Undiv n i) (h1 : n % bse i ≠ 0) : Undiv n (i + 1) := fun j hj => by
  rcases Nat.eq_or_lt_of_le (Nat.le_of_lt_succ hj) with rfl | h2
  · exact h1
  · exact h j h2
theorem Undiv.odd {n : Nat} (h : Undiv n 12) : n % 2 = 1 := by
  have h0 : n % 2 ≠ 0 := h 0 (by decide)
  omega
theorem small_base : ∀ n, n < 41 → 2 ≤ n → ∃ i, i < 12 ∧ n % bse i = 0 := by decide +kernel
theorem Undiv.ge {n : Nat} (h : Undiv n 12) (h2 : 2 ≤ n) : 41 ≤ n := by
  rcases Nat.lt_or_ge n 41 with h1 | h1
  · obtain ⟨i, hi, hd⟩ := small_base n h1 h2
    exact absurd hd (h i hi)
  · exact h1
theorem ctz_spec {n : Nat} (h : 41 ≤ n) (hodd : n % 2 = 1) (hn : n < 9223372036854775808) : ∃ s d : Nat, Lib.ctz 64 (n - 1) = s ∧ d % 2 = 1 ∧ n - 1 = 2 ^ s * d ∧ 1 ≤ s ∧ s ≤ 64 ∧ d ≤ n - 1 := by
  obtain ⟨m, h1, h2⟩ := Lib.ctzFrom_spec 64 (n - 1) (by omega) (by omega)
  have e : Lib.ctz 64 (n - 1) = Lib.ctzFrom 64 (n - 1) := by unfold Lib.ctz; rw [if_neg (by omega)]
  refine ⟨Lib.ctzFrom 64 (n - 1), 2 * m + 1, e, by omega, h1, ?_, by omega, ?_⟩
  · rcases Nat.eq_zero_or_pos (Lib.ctzFrom 64 (n - 1)) with h0 | h0
    · rw [h0] at h1; omega
    · exact h0
  · have h3 : 1 * (2 * m + 1) ≤ 2 ^ Lib.ctzFrom 64 (n - 1) * (2 * m + 1) := Nat.mul_le_mul_right _ (Nat.one_le_two_pow)
    omega
theorem two_part_same {u t v w : Nat} (h : 2 ^ u * t = 2 ^ v * w) (ht : t % 2 = 1) (hw : w % 2 = 1) : u = v ∧ t = w := by
  have key : ∀ u v t w : Nat, u ≤ v → 2 ^ u * t = 2 ^ v * w → t % 2 = 1 → u = v ∧ t = w := by
    intro u v t w huv h ht
    obtain ⟨c, rfl⟩ : ∃ c, v = u + c := ⟨v - u, by omega⟩
    rw [Nat.pow_add, Nat.mul_assoc] at h
    have h2 := Nat.eq_of_mul_eq_mul_left (Nat.pow_pos (show 0 < 2 by decide)) h
    rcases c with _ | c
    · rw [Nat.pow_zero, Nat.one_mul] at h2; exact ⟨rfl, h2⟩
    · rw [Nat.pow_succ] at h2
      have : 2 ^ c * 2 * w = 2 * (2 ^ c * w) := by grind
      omega
  rcases Nat.le_total u v with h1 | h1
  · exact key u v t w h1 h ht
  · have := key v u w t h1 h.symm hw
    exact ⟨this.1.symm, this.2.symm⟩
/-- the first i bases pass -/
def PassTo (n s d i : Nat) : Prop := ∀ j, j < i → Passes n s d (bse j)
theorem PassTo.zero (n s d : Nat) : PassTo n s d 0 := fun j hj => by omega
theorem PassTo.next {n s d i : Nat} (h : PassTo n s d i) (h1 : Passes n s d (bse i)) : PassTo n s d (i + 1) := fun j hj => by
  rcases Nat.eq_or_lt_of_le (Nat.le_of_lt_succ hj) with rfl | h2
  · exact h1
  · exact h j h2
theorem isB_pass {n s d : Nat} (h2 : 2 ≤ n) (hu : Undiv n 12) (he : n - 1 = 2 ^ s * d) (hd : d % 2 = 1) (h : PassTo n s d 12) : isB n = true := by
  refine isB_true.2 ⟨h2, Or.inr ⟨hu, fun i hi s' d' he' hd' => ?_⟩⟩
  obtain ⟨rfl, rfl⟩ := two_part_same (he.symm.trans he') hd hd'
  exact h i hi
theorem isB_fail {n s d i : Nat} (hu : Undiv n 12) (he : n - 1 = 2 ^ s * d) (hd : d % 2 = 1) (hi : i < 12) (h : ¬ Passes n s d (bse i)) : isB n = false := by
  rw [isB_false]
  rintro ⟨_, ⟨j, hj, e⟩ | ⟨_, h1⟩⟩
  · exact hu j hj (by rw [e, Nat.mod_self])
  · exact h (h1 i hi s d he hd)
/-- halving: what is kept -/
structure HInv (n s d : Nat) : Prop where
  eq : n - 1 = 2 ^ s * d
  pos : 0 < d
  s64 : s < 64
theorem HInv.start {n : Nat} (h : 2 ≤ n) : HInv n 0 (n - 1) := ⟨by rw [Nat.pow_zero, Nat.one_mul], by omega, by omega⟩
theorem HInv.next {n s d : Nat} (h : HInv n s d) (hn : n < 9223372036854775808) (he : d % 2 = 0) : HInv n (s + 1) (d / 2) := by
  have hp := h.pos
  have e : n - 1 = 2 ^ (s + 1) * (d / 2) := by
    rw [h.eq, Nat.pow_succ, Nat.mul_assoc]; congr 1; omega
  refine ⟨e, by omega, ?_⟩
  rcases Nat.lt_or_ge (s + 1) 64 with h1 | h1
  · exact h1
  · exfalso
    have h2 : 2 ^ 64 ≤ 2 ^ (s + 1) := Nat.pow_le_pow_right (by decide) h1
    have h3 : 2 ^ (s + 1) * 1 ≤ 2 ^ (s + 1) * (d / 2) := Nat.mul_le_mul_left _ (by omega)
    omega
end Go.Proofs.YtogbdnecpdcmiabDoor
/-
  prime.composite and the reference's strong: the strong test for one base.
-/
namespace Go.Proofs.YtogbdnecpdcmiabDoor
open Go Go.RowKit
theorem eq_b {a b : Nat} (h : a = b) : ((a : Int) == (b : Int)) = true := by simp; omega
theorem ne_b {a b : Nat} (h : a ≠ b) : ((a : Int) == (b : Int)) = false := by simp; omega
theorem bool_v {a b : Bool} (h : a = b) : Value.bool a = Value.bool b := by rw [h]
set_option maxRecDepth 100000 in
set_option maxHeartbeats 1000000 in
theorem composite_any (a n d s : Nat) (ha : a < n) (h1 : 2 < n) (hn : n ≤ 9223372036854775808) (hd : d < 9223372036854775808) (hs : 0 < s) (hs2 : s ≤ 64) (w : World) :
    Calls Tryd.prog 53 #[.int .u64 a, .int .u64 n, .int .u64 d, .int .i64 s] w (RetQ (.bool (compB n s d a)) w) := by
  obtain ⟨b, hb0⟩ : ∃ b, b = compB n s d a := ⟨_, rfl⟩
  have HB := Lib.hid hb0
  rw [← hb0]
  clear hb0
  obtain ⟨R, hR⟩ : ∃ R, R = a ^ d % n := ⟨_, rfl⟩
  have hRn : R < n := by rw [hR]; exact Nat.mod_lt _ (by omega)
  have HR := Lib.hid hR
  clear hR
  by_cases hx1 : R = 1 ∨ R = n - 1
  · have hf : b = false := by rw [HB.out, compB_false]; exact passes_first hs HR.out hx1
    subst hf
    by_cases hx2 : R = 1
    · have t1 : ((R : Int) == 1) = true := by simp; omega
      have H1 := Lib.hid hx2
      clear hx1 hx2
      go_enter Tryd.func53, Tryd.ntmps53
      go_wp2_with (go_at_call 72; refine (ppow_any _ _ _ ha (by omega) hd hn _).mono ?_; rintro e w' ⟨rfl, hb⟩; rw [← HR.out])
      go_ret
      exact retq_of rfl hb
    · have t1 : ((R : Int) == 1) = false := by simp; omega
      have t2 : ((R : Int) == (n : Int) - 1) = true := by simp; omega
      clear hx1 hx2
      go_enter Tryd.func53, Tryd.ntmps53
      go_wp2_with (go_at_call 72; refine (ppow_any _ _ _ ha (by omega) hd hn _).mono ?_; rintro e w' ⟨rfl, hb⟩; rw [← HR.out])
      go_ret
      exact retq_of rfl hb
  · have t1 : ((R : Int) == 1) = false := by simp; omega
    have t2 : ((R : Int) == (n : Int) - 1) = false := by simp; omega
    have i0 : SInv n s d a 0 R := SInv.start HR.out (by omega) (by omega)
    have I0 := Lib.hid i0
    clear hx1 i0
    go_enter Tryd.func53, Tryd.ntmps53
    go_wp2_with (go_at_call 72; refine (ppow_any _ _ _ ha (by omega) hd hn _).mono ?_; rintro e w' ⟨rfl, hb⟩; rw [← HR.out])
    go_loopw [9, 24] (fun vx vi wr => ∃ x i : Nat, vx = .int .u64 x ∧ vi = .int .i64 i ∧ i < s ∧ x < n ∧ SInv n s d a i x ∧ Drew w wr) (fun _ vi _ => s - (intOf vi).toNat)
    case atStart => exact ⟨R, 0, rfl, rfl, hs, hRn, I0.out, hb⟩
    case round =>
      clear I0 HR t1 t2 hRn hb
      obtain ⟨x, i, rfl, rfl, hi, hx, inv, hb⟩ := hrel
      have INV := Lib.hid inv
      clear inv
      by_cases hlt : i + 1 < s
      · have t3 : decide ((i : Int) < (s : Int) - 1) = true := by simp; omega
        obtain ⟨Y, hY⟩ : ∃ Y, Y = x * x % n := ⟨_, rfl⟩
        have hYn : Y < n := by rw [hY]; exact Nat.mod_lt _ (by omega)
        have HY := Lib.hid hY
        clear hY
        by_cases hy : Y = n - 1
        · have t4 : ((Y : Int) == (n : Int) - 1) = true := by simp; omega
          have hf : b = false := by rw [HB.out, compB_false]; exact INV.out.hit (by rw [← HY.out]; exact hy) hlt
          subst hf
          clear hy
          go_wp2_with (go_at_call 73; refine (pmul_any _ _ _ hx hx hn _).mono ?_; rintro e w' ⟨rfl, hw⟩; have hb := drew_next hb hw; clear hw; rw [← HY.out])
          go_ret
          exact retq_of rfl hb
        · have t4 : ((Y : Int) == (n : Int) - 1) = false := by simp; omega
          have nx : SInv n s d a (i + 1) Y := by rw [HY.out]; exact INV.out.next (by rw [← HY.out]; exact hy)
          have NX := Lib.hid nx
          clear hy nx
          go_wp2_with (go_at_call 73; refine (pmul_any _ _ _ hx hx hn _).mono ?_; rintro e w' ⟨rfl, hw⟩; have hb := drew_next hb hw; clear hw; rw [← HY.out])
          go_roundw
          case rel => exact ⟨Y, i + 1, rfl, by go_num, hlt, hYn, NX.out, hb⟩
          case measure => simp [intOf]; omega
      · have t3 : decide ((i : Int) < (s : Int) - 1) = false := by simp; omega
        have hf : b = true := by rw [HB.out, compB_true]; exact INV.out.done (by omega)
        subst hf
        go_wp2
        go_ret
        exact retq_of rfl hb
end Go.Proofs.YtogbdnecpdcmiabDoor
/-
  prime.Is: what it answers, as the strong tests.
-/
namespace Go.Proofs.YtogbdnecpdcmiabDoor
open Go Go.RowKit
/-- a whole array read out of its cells -/
theorem run_loadVar_cells {P : Program} (w : World) (g : Nat) (ty : TypeId) (l : List Value) (d : TypeDesc) (hc : ∀ (j : Nat) v, l[j]? = some v → w.cell? ⟨g, j, none⟩ = some v)
    (hu : P.underlying ty = some d) (hd : (match d with | .struct _ | .array _ _ => true | _ => false) = true) (hi : (P.info? ty).map (·.size) = some l.length) :
    (loadVar ty ⟨g, 0, none⟩).run P w = .ok (.agg l.toArray) w := by
  have hl : (loadCells ⟨g, 0, none⟩ l.length).run P w = .ok l.toArray w :=
    run_loadCells_list (P := P) w ⟨g, 0, none⟩ l (fun j v hv => by
      have hadd : (⟨g, 0, none⟩ : Addr).add j = ⟨g, j, none⟩ := by unfold Addr.add; split <;> simp_all
      rw [hadd]; exact hc j v hv)
  cases hq : P.info? ty with
  | none => simp [hq] at hi
  | some i =>
    have hs : i.size = l.length := by simpa [hq] using hi
    have hagg : (isAgg ty).run P w = .ok true w := by
      unfold isAgg
      rw [Sem.run_bind, run_underlying hu w]
      cases d <;> simp_all
    simp [loadVar, Sem.run_bind, hagg, sizeOf, typeInfo, hq, hs, hl]
theorem wpList_load_cells {P : Program} {ops : Array Oper} {rest : List Oper} {o : Oper} {a : Act} {w : World} {Q : Exit → Act → World → Prop} (hgd : o.guard = none) (ty : TypeId) (x : Operand) (ho : o.op = .load ty x)
    (g : Nat) (hx : a.eval x = .pointer (some ⟨g, 0, none⟩)) (l : List Value) (d : TypeDesc) (hc : ∀ (j : Nat) v, l[j]? = some v → w.cell? ⟨g, j, none⟩ = some v)
    (hu : P.underlying ty = some d) (hd : (match d with | .struct _ | .array _ _ => true | _ => false) = true) (hi : (P.info? ty).map (·.size) = some l.length)
    (h : wpList P ops Q rest (a.put o.dst (.agg l.toArray)) w) : wpList P ops Q (o :: rest) a w :=
  wpList_plain hgd fun _ hK => by
    unfold Oper.wp execOp
    simp only [ho, hx, Instr.loadAt, Instr.sureAddr, Sem.run_bind, Sem.run_pure, Result.andThen_ok, run_loadVar_cells w g ty l d hc hu hd hi]
    exact hK _ _ h
def basesV : List Value := [.int .u64 2, .int .u64 3, .int .u64 5, .int .u64 7, .int .u64 11, .int .u64 13, .int .u64 17, .int .u64 19, .int .u64 23, .int .u64 29, .int .u64 31, .int .u64 37]
/-- the tables that the program reads, in their variables -/
structure Tabs (w : World) : Prop where
  db : TabAt 1 Lib.deBruijn64tab w
  bs : ∀ (j : Nat) v, basesV[j]? = some v → w.cell? ⟨0, j, none⟩ = some v
theorem block_lt {w : World} {p : Addr} {v : Value} (h : w.cell? p = some v) : p.block < w.heap.size := by
  rcases Nat.lt_or_ge p.block w.heap.size with h1 | h1
  · exact h1
  · exfalso
    have : w.heap[p.block]? = none := Array.getElem?_eq_none h1
    simp [World.cell?, this] at h
theorem Tabs.below {w w' : World} (h : Tabs w) (hb : Below w.heap.size w w') : Tabs w' := by
  refine ⟨fun j hj => ?_, fun j v hv => ?_⟩
  · have := h.db j hj
    rw [hb.cell (block_lt this)]; exact this
  · have := h.bs j v hv
    rw [hb.cell (block_lt this)]; exact this
theorem idx_all (i : Nat) (hi : i < 12) (w : World) : (Instr.index 73 (.agg basesV.toArray) (.int .i64 (i : Int))).run Tryd.prog w = .ok (.int .u64 (bse i : Int)) w := by
  have : i = 0 ∨ i = 1 ∨ i = 2 ∨ i = 3 ∨ i = 4 ∨ i = 5 ∨ i = 6 ∨ i = 7 ∨ i = 8 ∨ i = 9 ∨ i = 10 ∨ i = 11 := by omega
  rcases this with rfl | rfl | rfl | rfl | rfl | rfl | rfl | rfl | rfl | rfl | rfl | rfl <;> (show _ = _; kernel_rfl)
theorem int_mod (a b : Nat) : (a : Int) % (b : Int) = ((a % b : Nat) : Int) := (Int.natCast_emod a b).symm
set_option maxRecDepth 100000 in
set_option maxHeartbeats 2000000 in
theorem is_any (n : Nat) (w : World) (h2 : 2 ≤ n) (hn : n < 9223372036854775808) (hT : Tabs w) :
    Calls Tryd.prog 29 #[.int .i64 n] w (RetQ (.bool (isB n)) w) := by
  have h2' : decide ((n : Int) < 2) = false := by simp; omega
  obtain ⟨b, hb0⟩ : ∃ b, b = isB n := ⟨_, rfl⟩
  have HB := Lib.hid hb0
  rw [← hb0]
  clear hb0
  go_enter Tryd.func29, Tryd.ntmps29
  go_wp2_with (refine wpList_load_cells rfl 73 (.global 0) rfl 0 rfl basesV _ hT.bs Tryd.underlying73 rfl (by kernel_rfl) ?_)
  go_loop [5, 14] (fun _ vi => ∃ i : Nat, vi = .int .i64 i ∧ i ≤ 12 ∧ Undiv n i) (fun _ vi => 12 - (intOf vi).toNat)
  case atStart => exact ⟨0, rfl, by omega, Undiv.zero n⟩
  case round =>
    clear h2'
    obtain ⟨i, rfl, hi, hu⟩ := hrel
    have HU := Lib.hid hu
    clear hu
    by_cases hlt : i < 12
    · have hix := idx_all i hlt w
      have hpos := bse_pos hlt
      have hnz : ¬ (bse i : Int) = 0 := by omega
      obtain ⟨p, hp⟩ : ∃ p, p = bse i := ⟨_, rfl⟩
      rw [← hp] at hix hpos hnz
      have HP := Lib.hid hp
      clear hp
      by_cases hd : n % p = 0
      · have t1 : ((n : Int) % (p : Int) == 0) = true := by rw [int_mod, hd]; rfl
        have t1' : (n : Int) % (p : Int) = 0 := by rw [int_mod, hd]; rfl
        by_cases he : n = p
        · have t2 : ((n : Int) == (p : Int)) = true := eq_b he
          have hf : b = true := by rw [HB.out]; exact isB_base hlt (by rw [← HP.out]; exact he)
          subst hf
          have HE := Lib.hid he; have HD := Lib.hid hd
          clear he hd
          go_wp2
          go_ret
          exact retq_of rfl (Drew.refl _)
        · have t2 : ((n : Int) == (p : Int)) = false := ne_b he
          have hf : b = false := by rw [HB.out]; exact isB_div hlt (by rw [← HP.out]; exact hd) (by rw [← HP.out]; exact he)
          subst hf
          have HD := Lib.hid hd
          clear he hd
          go_wp2
          go_ret
          exact retq_of rfl (Drew.refl _)
      · have t1 : ((n : Int) % (p : Int) == 0) = false := by rw [int_mod]; simp; omega
        have nx : Undiv n (i + 1) := HU.out.next (by rw [← HP.out]; exact hd)
        have NX := Lib.hid nx
        clear hd nx
        go_wp2
        go_round
        case rel => exact ⟨i + 1, by go_num, by omega, NX.out⟩
        case measure => simp [intOf]; omega
    · have h12 : i = 12 := by omega
      subst h12
      have h41 := HU.out.ge h2
      have hodd := HU.out.odd
      obtain ⟨s, d, hs, hd, hds, hs1, hs64, hd0⟩ := ctz_spec h41 hodd hn
      obtain ⟨m, hm⟩ : ∃ m, m = n - 1 := ⟨_, rfl⟩
      have em : (n : Int) - 1 = (m : Int) := by omega
      have eD : (m : Int) / 2 ^ s = (d : Int) := by
        rw [shr_cast, hm, hds, Nat.mul_div_cancel_left _ (Nat.pow_pos (by decide))]
      rw [← hm] at hs
      have HS := Lib.hid hs; have HD := Lib.hid hd; have HDS := Lib.hid hds; have HM := Lib.hid hm
      have hd9 : d < 9223372036854775808 := by omega
      have hm64 : m < 18446744073709551616 := by omega
      clear hs hd hds hm hodd
      go_wp2_with (first
        | (go_at_call 52; refine (Tryd.bits_TrailingZeros64 _ hm64 _ (fun _ => hT.db)).mono ?_; rintro e w' ⟨rfl, hw⟩; rw [hw, HS.out]; clear hw)
        | (refine wpList_load_cells rfl 73 (.global 0) rfl 0 rfl basesV _ hT.bs Tryd.underlying73 rfl (by kernel_rfl) ?_))
      go_loopw [8, 29] (fun _ vi wr => ∃ i : Nat, vi = .int .i64 i ∧ i ≤ 12 ∧ PassTo n s d i ∧ Drew w wr) (fun _ vi _ => 12 - (intOf vi).toNat)
      case atStart => exact ⟨0, rfl, by omega, PassTo.zero n s d, Drew.refl _⟩
      case round =>
        clear hT HS
        obtain ⟨i, rfl, hi, hp, hb⟩ := hrel
        have HPT := Lib.hid hp
        clear hp
        by_cases hlt : i < 12
        · have hix := idx_all i hlt wr
          obtain ⟨hp2, hp37, _⟩ := bse_all i hlt
          obtain ⟨p, hp⟩ : ∃ p, p = bse i := ⟨_, rfl⟩
          rw [← hp] at hix hp2 hp37
          have HP := Lib.hid hp
          clear hp
          have hpn : p < n := by omega
          obtain ⟨c, hc⟩ : ∃ c, c = compB n s d p := ⟨_, rfl⟩
          have HC := Lib.hid hc
          clear hc
          cases hcc : c
          · have hpass : PassTo n s d (i + 1) := HPT.out.next (by rw [← HP.out, ← compB_false, ← HC.out]; exact hcc)
            have NX := Lib.hid hpass
            clear hpass
            subst hcc
            go_wp2_with (go_at_call 53; refine (composite_any _ _ _ _ hpn (by omega) (by omega) hd9 hs1 hs64 _).mono ?_; rintro e w' ⟨rfl, hw⟩; have hb := drew_next hb hw; clear hw; rw [← HC.out])
            go_roundw
            case rel => exact ⟨i + 1, by go_num, by omega, NX.out, hb⟩
            case measure => simp [intOf]; omega
          · have hf : b = false := by rw [HB.out]; exact isB_fail HU.out HDS.out HD.out hlt (by rw [← HP.out, ← compB_true, ← HC.out]; exact hcc)
            subst hf
            subst hcc
            go_wp2_with (go_at_call 53; refine (composite_any _ _ _ _ hpn (by omega) (by omega) hd9 hs1 hs64 _).mono ?_; rintro e w' ⟨rfl, hw⟩; have hb := drew_next hb hw; clear hw; rw [← HC.out])
            go_ret
            exact retq_of rfl hb
        · have h12 : i = 12 := by omega
          subst h12
          have hf : b = true := by rw [HB.out]; exact isB_pass h2 HU.out HDS.out HD.out HPT.out
          subst hf
          go_wp2
          go_ret
          exact retq_of rfl hb
/-- prime.Is, of any integer -/
theorem is_all (n : Int) (w : World) (hn : n ≤ 9223372036854775807) (hT : Tabs w) :
    Calls Tryd.prog 29 #[.int .i64 n] w (RetQ (.bool (isB n.toNat)) w) := by
  by_cases h2 : n < 2
  · have e : isB n.toNat = false := isB_small (by omega)
    rw [e]
    clear e hT
    go_enter Tryd.func29, Tryd.ntmps29
    go_wp2
    go_ret
    exact retq_of rfl (Drew.refl _)
  · obtain ⟨k, rfl⟩ : ∃ k : Nat, n = k := ⟨n.toNat, by omega⟩
    rw [Int.toNat_natCast]
    exact is_any k w (by omega) (by omega) hT
end Go.Proofs.YtogbdnecpdcmiabDoor
/-
  The reference's strong and Is.
-/
namespace Go.Proofs.YtogbdnecpdcmiabDoor
open Go Go.RowKit
set_option maxRecDepth 100000 in
set_option maxHeartbeats 1000000 in
theorem strong_any (n a s d : Nat) (ha : a < n) (h1 : 41 ≤ n) (hn : n < 2305843009213693952) (he : n - 1 = 2 ^ s * d) (hd : d % 2 = 1) (hs : 1 ≤ s) (w : World) :
    Calls Tryd.prog 55 #[.int .i64 n, .int .i64 a] w (RetQ (.bool (!compB n s d a)) w) := by
  obtain ⟨b, hb0⟩ : ∃ b, b = !compB n s d a := ⟨_, rfl⟩
  have HB := Lib.hid hb0
  rw [← hb0]
  have HE := Lib.hid he; have HD := Lib.hid hd
  clear hb0 he hd
  go_enter Tryd.func55, Tryd.ntmps55
  go_wp2
  go_loop [5, 6] (fun vd vs => ∃ d' s' : Nat, vd = .int .i64 d' ∧ vs = .int .i64 s' ∧ HInv n s' d' ∧ d' < n) (fun vd _ => (intOf vd).toNat)
  case atStart => exact ⟨n - 1, 0, by go_num, rfl, HInv.start (by omega), by omega⟩
  case round =>
    obtain ⟨d', s', rfl, rfl, inv, hdn⟩ := hrel
    have hpos := inv.pos
    have hs64 := inv.s64
    have INV := Lib.hid inv
    clear inv
    by_cases hev : d' % 2 = 0
    · have t1 : (d' : Int) % 2 = 0 := by omega
      have nx := INV.out.next (by omega) hev
      have NX := Lib.hid nx
      clear hev nx
      go_wp2
      go_round
      case rel => exact ⟨d' / 2, s' + 1, by go_num, by go_num, NX.out, by omega⟩
      case measure => simp [intOf]; omega
    · have t1 : (d' : Int) % 2 = 1 := by omega
      have hss : s' = s ∧ d' = d := two_part_same (INV.out.eq.symm.trans HE.out) (by omega) HD.out
      obtain ⟨rfl, rfl⟩ := hss
      obtain ⟨R, hR⟩ : ∃ R, R = a ^ d' % n := ⟨_, rfl⟩
      have hRn : R < n := by rw [hR]; exact Nat.mod_lt _ (by omega)
      have HR := Lib.hid hR
      clear hR hev
      by_cases hx1 : R = 1
      · have t2 : ((R : Int) == 1) = true := by simp; omega
        have hf : b = true := by rw [HB.out, Bool.not_eq_true', compB_false]; exact passes_first hs HR.out (Or.inl hx1)
        subst hf
        have H1 := Lib.hid hx1
        clear hx1
        go_wp2_with (go_at_call 32; refine (rpow_any _ _ _ ha (by omega) hn _).mono ?_; rintro e w' ⟨rfl, hb⟩; rw [← HR.out])
        go_ret
        exact retq_of rfl hb
      · have t2 : ((R : Int) == 1) = false := by simp; omega
        by_cases hx2 : R = n - 1
        · have t3 : ((R : Int) == (n : Int) - 1) = true := by simp; omega
          have hf : b = true := by rw [HB.out, Bool.not_eq_true', compB_false]; exact passes_first hs HR.out (Or.inr hx2)
          subst hf
          clear hx1 hx2
          go_wp2_with (go_at_call 32; refine (rpow_any _ _ _ ha (by omega) hn _).mono ?_; rintro e w' ⟨rfl, hb⟩; rw [← HR.out])
          go_ret
          exact retq_of rfl hb
        · have t3 : ((R : Int) == (n : Int) - 1) = false := by simp; omega
          have i0 : SInv n s' d' a 0 R := SInv.start HR.out hx1 hx2
          have I0 := Lib.hid i0
          clear hx1 hx2 i0
          go_wp2_with (go_at_call 32; refine (rpow_any _ _ _ ha (by omega) hn _).mono ?_; rintro e w' ⟨rfl, hb⟩; rw [← HR.out])
          go_loopw [7, 8] (fun vx vi wr => ∃ x i : Nat, vx = .int .i64 x ∧ vi = .int .i64 (i + 1 : Nat) ∧ i < s' ∧ x < n ∧ SInv n s' d' a i x ∧ Drew w wr) (fun _ vi _ => s' + 1 - (intOf vi).toNat)
          case atStart => exact ⟨R, 0, rfl, rfl, hs, hRn, I0.out, hb⟩
          case round =>
            clear I0 HR t1 t2 t3 hRn hb
            obtain ⟨x, i, rfl, rfl, hi, hx, inv, hb⟩ := hrel
            have SI := Lib.hid inv
            clear inv
            obtain ⟨k, hk⟩ : ∃ k : Nat, k = i + 1 := ⟨_, rfl⟩
            rw [← hk]
            have hk0 : 0 < k := by omega
            have hks : k ≤ s' := by omega
            have HK := Lib.hid hk
            clear hk
            by_cases hlt : k < s'
            · obtain ⟨Y, hY⟩ : ∃ Y, Y = x * x % n := ⟨_, rfl⟩
              have hYn : Y < n := by rw [hY]; exact Nat.mod_lt _ (by omega)
              have HY := Lib.hid hY
              clear hY
              by_cases hy : Y = n - 1
              · have t4 : ((Y : Int) == (n : Int) - 1) = true := by simp; omega
                have hf : b = true := by rw [HB.out, Bool.not_eq_true', compB_false]; exact SI.out.hit (by rw [← HY.out]; exact hy) (by rw [← HK.out]; exact hlt)
                subst hf
                clear hy
                go_wp2_with (go_at_call 50; refine (rmul_any _ _ _ hx hx hn _).mono ?_; rintro e w' ⟨rfl, hw⟩; have hb := drew_next hb hw; clear hw; rw [← HY.out])
                go_ret
                exact retq_of rfl hb
              · have t4 : ((Y : Int) == (n : Int) - 1) = false := by simp; omega
                have nx : SInv n s' d' a (i + 1) Y := by rw [HY.out]; exact SI.out.next (by rw [← HY.out]; exact hy)
                have NX := Lib.hid nx
                clear hy nx
                go_wp2_with (go_at_call 50; refine (rmul_any _ _ _ hx hx hn _).mono ?_; rintro e w' ⟨rfl, hw⟩; have hb := drew_next hb hw; clear hw; rw [← HY.out])
                go_roundw
                case rel => exact ⟨Y, i + 1, rfl, by rw [HK.out]; go_num, by rw [← HK.out]; exact hlt, hYn, NX.out, hb⟩
                case measure => simp [intOf]; omega
            · have hf : b = false := by rw [HB.out, Bool.not_eq_false', compB_true]; exact SI.out.done (by rw [← HK.out]; omega)
              subst hf
              go_wp2
              go_ret
              exact retq_of rfl hb
end Go.Proofs.YtogbdnecpdcmiabDoor
/-
  The reference's Is, below 2^61.
-/
namespace Go.Proofs.YtogbdnecpdcmiabDoor
open Go Go.RowKit
def basesI : Array Value := #[.int .i64 2, .int .i64 3, .int .i64 5, .int .i64 7, .int .i64 11, .int .i64 13, .int .i64 17, .int .i64 19, .int .i64 23, .int .i64 29, .int .i64 31, .int .i64 37]
theorem bases_cells (w : World) (j : Nat) (hj : j < 12) : (w.alloc (.cells basesI 3)).cell? ⟨w.heap.size, j, none⟩ = some (.int .i64 (bse j : Int)) := by
  rw [cell_of_row (w.alloc (.cells basesI 3)) w.heap.size j basesI _ _ (heap_alloc_new _ _)]
  have : j = 0 ∨ j = 1 ∨ j = 2 ∨ j = 3 ∨ j = 4 ∨ j = 5 ∨ j = 6 ∨ j = 7 ∨ j = 8 ∨ j = 9 ∨ j = 10 ∨ j = 11 := by omega
  rcases this with rfl | rfl | rfl | rfl | rfl | rfl | rfl | rfl | rfl | rfl | rfl | rfl <;> rfl
set_option maxRecDepth 100000 in
set_option maxHeartbeats 2000000 in
theorem ris_any (n : Nat) (w : World) (h2 : 2 ≤ n) (hn : n < 2305843009213693952) :
    Calls Tryd.prog 31 #[.int .i64 n] w (Ret (.bool (isB n)) w) := by
  have h2' : decide ((n : Int) < 2) = false := by simp; omega
  obtain ⟨b, hb0⟩ : ∃ b, b = isB n := ⟨_, rfl⟩
  have HB := Lib.hid hb0
  rw [← hb0]
  clear hb0
  go_enter Tryd.func31, Tryd.ntmps31
  go_wp2
  have hcs := bases_cells w
  have hbs : Below w.heap.size w (w.alloc (.cells basesI 3)) := (Below.refl _ _).alloc (Nat.le_refl _) _
  have hbl : w.heap.size < (w.alloc (.cells basesI 3)).heap.size := by simp
  unfold basesI at hcs hbs hbl
  generalize w.alloc _ = W1 at hcs hbs hbl ⊢
  obtain ⟨B, hB⟩ : ∃ B, B = w.heap.size := ⟨_, rfl⟩
  rw [← hB] at hcs hbl ⊢
  have HB1 := Lib.hid hB
  have HCS := Lib.hid hcs
  clear hB hcs
  go_loop [4] (fun vi => ∃ i : Nat, vi = .int .i64 i ∧ i ≤ 12 ∧ Undiv n i) (fun vi => 12 - (intOf vi).toNat)
  case atStart => exact ⟨0, rfl, by omega, Undiv.zero n⟩
  case round =>
    clear h2'
    obtain ⟨i, rfl, hi, hu⟩ := hrel
    have HU := Lib.hid hu
    clear hu
    by_cases hlt : i < 12
    · have hix := HCS.out i hlt
      have hpos := bse_pos hlt
      have hnz : ¬ (bse i : Int) = 0 := by omega
      obtain ⟨p, hp⟩ : ∃ p, p = bse i := ⟨_, rfl⟩
      rw [← hp] at hix hpos hnz
      have HP := Lib.hid hp
      clear hp
      by_cases hd : n % p = 0
      · have t1 : ((n : Int) % (p : Int) == 0) = true := by rw [int_mod, hd]; rfl
        have t1' : (n : Int) % (p : Int) = 0 := by rw [int_mod, hd]; rfl
        by_cases he : n = p
        · have t2 : ((n : Int) == (p : Int)) = true := eq_b he
          have hf : b = true := by rw [HB.out]; exact isB_base hlt (by rw [← HP.out]; exact he)
          subst hf
          have HE := Lib.hid he; have HD := Lib.hid hd
          clear he hd
          go_wp2
          go_ret
          exact ret_of rfl hbs
        · have t2 : ((n : Int) == (p : Int)) = false := ne_b he
          have hf : b = false := by rw [HB.out]; exact isB_div hlt (by rw [← HP.out]; exact hd) (by rw [← HP.out]; exact he)
          subst hf
          have HD := Lib.hid hd
          clear he hd
          go_wp2
          go_ret
          exact ret_of rfl hbs
      · have t1 : ((n : Int) % (p : Int) == 0) = false := by rw [int_mod]; simp; omega
        have nx : Undiv n (i + 1) := HU.out.next (by rw [← HP.out]; exact hd)
        have NX := Lib.hid nx
        clear hd nx
        go_wp2
        go_round
        case rel => exact ⟨i + 1, by go_num, by omega, NX.out⟩
        case measure => simp [intOf]; omega
    · have h12 : i = 12 := by omega
      subst h12
      have h41 := HU.out.ge h2
      have hodd := HU.out.odd
      obtain ⟨s, d, _, hd, hds, hs1, hs64, hd0⟩ := ctz_spec h41 hodd (by omega)
      have HD := Lib.hid hd; have HDS := Lib.hid hds
      have hbig : decide ((2305843009213693952 : Int) ≤ (n : Int)) = false := by simp; omega
      clear hd hds hodd
      go_wp2
      go_loopw [5] (fun vi wr => ∃ i : Nat, vi = .int .i64 i ∧ i ≤ 12 ∧ PassTo n s d i ∧ Below W1.heap.size W1 wr) (fun vi _ => 12 - (intOf vi).toNat)
      case atStart => exact ⟨0, rfl, by omega, PassTo.zero n s d, Below.refl _ _⟩
      case round =>
        clear hbig
        obtain ⟨i, rfl, hi, hp, hb⟩ := hrel
        have HPT := Lib.hid hp
        clear hp
        by_cases hlt : i < 12
        · have hix : wr.cell? ⟨B, i, none⟩ = some (.int .i64 (bse i : Int)) := by rw [hb.cell hbl]; exact HCS.out i hlt
          obtain ⟨hp2, hp37, _⟩ := bse_all i hlt
          obtain ⟨p, hp⟩ : ∃ p, p = bse i := ⟨_, rfl⟩
          rw [← hp] at hix hp2 hp37
          have HP := Lib.hid hp
          clear hp
          have hpn : p < n := by omega
          obtain ⟨c, hc⟩ : ∃ c, c = compB n s d p := ⟨_, rfl⟩
          have HC := Lib.hid hc
          clear hc
          cases hcc : c
          · have hpass : PassTo n s d (i + 1) := HPT.out.next (by rw [← HP.out, ← compB_false, ← HC.out]; exact hcc)
            have NX := Lib.hid hpass
            clear hpass
            subst hcc
            go_wp2_with (go_at_call 55; refine (strong_any _ _ _ _ hpn h41 hn HDS.out HD.out hs1 _).mono ?_; rintro e w' ⟨rfl, hw⟩; have hb := below_next hb hw.below; clear hw; rw [← HC.out])
            go_roundw
            case rel => exact ⟨i + 1, by go_num, by omega, NX.out, hb⟩
            case measure => simp [intOf]; omega
          · have hf : b = false := by rw [HB.out]; exact isB_fail HU.out HDS.out HD.out hlt (by rw [← HP.out, ← compB_true, ← HC.out]; exact hcc)
            subst hf
            subst hcc
            go_wp2_with (go_at_call 55; refine (strong_any _ _ _ _ hpn h41 hn HDS.out HD.out hs1 _).mono ?_; rintro e w' ⟨rfl, hw⟩; have hb := below_next hb hw.below; clear hw; rw [← HC.out])
            go_ret
            exact ret_of rfl (below_next hbs hb)
        · have h12 : i = 12 := by omega
          subst h12
          have hf : b = true := by rw [HB.out]; exact isB_pass h2 HU.out HDS.out HD.out HPT.out
          subst hf
          go_wp2
          go_ret
          exact ret_of rfl (below_next hbs hb)
end Go.Proofs.YtogbdnecpdcmiabDoor
