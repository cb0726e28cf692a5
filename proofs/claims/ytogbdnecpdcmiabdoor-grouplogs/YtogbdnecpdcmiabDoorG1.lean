/-
  Groups that are made, the elements of a small group, and the chapter's examples.
-/
import Derived.Test.YtogbdnecpdcmiabDoorJ3
import Derived.Test.YtogbdnecpdcmiabDoorMrA
import Derived.Laws.Tables
import Derived.Laws.Rows
import Derived.Laws.ResultCell
import Derived.Test.YtogbdnecpdcmiabDoorJ4
import Derived.Shelf.Sort.Plain
import Derived.Shelf.Slices.Equal
import Derived.Shelf.Slices.In.SortNone
import Derived.Shelf.Slices.Empties2
import Derived.Test.YtogbdnecpdcmiabDoorProg
import Derived.Sort.OwnSortedInts
/-
  The inverse modulo a number: plain mathematics.
-/
namespace Go.Proofs.YtogbdnecpdcmiabDoor
open Go Go.RowKit
/-- what Euclid's algorithm keeps -/
structure EInv (a0 m a d : Nat) (x n : Int) : Prop where
  ad : a < d
  dm : d ≤ m
  bd : x.natAbs * a + n.natAbs * d = m
  le : x.natAbs ≤ n.natAbs
  sg : (0 ≤ n ∧ x ≤ 0) ∨ (n ≤ 0 ∧ 0 ≤ x)
  cx : (m : Int) ∣ (a0 : Int) * x - (d : Int)
  cn : (m : Int) ∣ (a0 : Int) * n - (a : Int)
  gc : Nat.gcd a d = Nat.gcd a0 m
theorem EInv.start {a0 m : Nat} (h : a0 < m) : EInv a0 m a0 m 0 1 :=
  ⟨h, Nat.le_refl _, by simp, by simp, Or.inl ⟨by decide, by decide⟩, by simp, by simp, rfl⟩
theorem EInv.next {a0 m a d : Nat} {x n : Int} (h : EInv a0 m a d x n) (ha : 0 < a) : EInv a0 m (d % a) a n (x - ((d / a : Nat) : Int) * n) := by
  have hq : 1 ≤ d / a := (Nat.le_div_iff_mul_le ha).2 (by have := h.ad; omega)
  have hda := Nat.div_add_mod d a
  have key : (x - ((d / a : Nat) : Int) * n).natAbs = x.natAbs + (d / a) * n.natAbs := by
    have e1 : (((d / a : Nat) : Int) * n).natAbs = (d / a) * n.natAbs := by rw [Int.natAbs_mul]; rfl
    have e2 : 0 ≤ n → 0 ≤ ((d / a : Nat) : Int) * n := fun h => Int.mul_nonneg (by omega) h
    have e3 : n ≤ 0 → ((d / a : Nat) : Int) * n ≤ 0 := fun h => Int.mul_nonpos_of_nonneg_of_nonpos (by omega) h
    generalize ((d / a : Nat) : Int) * n = T at e1 e2 e3
    rcases h.sg with ⟨h1, h2⟩ | ⟨h1, h2⟩
    · have := e2 h1; omega
    · have := e3 h1; omega
  have kle : n.natAbs ≤ (d / a) * n.natAbs := Nat.le_mul_of_pos_left _ (by omega)
  refine ⟨Nat.mod_lt _ ha, by have := h.ad; have := h.dm; omega, ?_, by rw [key]; omega, ?_, h.cn, ?_, ?_⟩
  · rw [key, ← h.bd]
    conv => rhs; rw [← hda]
    rw [Nat.add_mul, Nat.mul_add, Nat.mul_comm (d / a) n.natAbs, Nat.mul_assoc, Nat.mul_comm (d / a) a]
    omega
  · have e2 : 0 ≤ n → 0 ≤ ((d / a : Nat) : Int) * n := fun h => Int.mul_nonneg (by omega) h
    have e3 : n ≤ 0 → ((d / a : Nat) : Int) * n ≤ 0 := fun h => Int.mul_nonpos_of_nonneg_of_nonpos (by omega) h
    generalize ((d / a : Nat) : Int) * n = T at e2 e3
    rcases h.sg with ⟨h1, h2⟩ | ⟨h1, h2⟩
    · have := e2 h1; right; omega
    · have := e3 h1; left; omega
  · have e : (a0 : Int) * (x - ((d / a : Nat) : Int) * n) - ((d % a : Nat) : Int) = ((a0 : Int) * x - (d : Int)) - ((d / a : Nat) : Int) * ((a0 : Int) * n - (a : Int)) := by
      have h1 : ((d : Nat) : Int) = (a : Int) * ((d / a : Nat) : Int) + ((d % a : Nat) : Int) := by
        rw [← Int.natCast_mul, ← Int.natCast_add, hda]
      rw [h1]; grind
    rw [e]
    exact Int.dvd_sub h.cx (Int.dvd_trans h.cn (Int.dvd_mul_left _ _))
  · rw [← h.gc, Nat.gcd_rec a d]
theorem EInv.bound {a0 m a d : Nat} {x n : Int} (h : EInv a0 m a d x n) : n.natAbs ≤ m ∧ x.natAbs ≤ m := by
  have h1 : n.natAbs * 1 ≤ n.natAbs * d := Nat.mul_le_mul_left _ (by have := h.ad; omega)
  have := h.bd; have := h.le
  omega
/-- what the algorithm ends with -/
structure EEnd (a m : Nat) (d x : Int) : Prop where
  dg : d = (Nat.gcd a m : Nat)
  x0 : 0 ≤ x
  xm : x < m
  cx : (m : Int) ∣ (a : Int) * x - d
theorem EInv.fin {a0 m d : Nat} {x n : Int} (h : EInv a0 m 0 d x n) (hm : 0 < m) : EEnd a0 m (d : Int) (x % (m : Int)) := by
  have h1 := h.gc
  rw [Nat.gcd_zero_left] at h1
  refine ⟨by rw [h1], Int.emod_nonneg _ (by omega), Int.emod_lt_of_pos _ (by omega), ?_⟩
  have h2 : (a0 : Int) * (x % (m : Int)) - (d : Int) = ((a0 : Int) * x - (d : Int)) - (m : Int) * ((a0 : Int) * (x / (m : Int))) := by
    have h3 := Int.emod_add_mul_ediv x (m : Int)
    conv => rhs; rw [← h3]
    rw [show x % (m : Int) + (m : Int) * (x / (m : Int)) = x from h3]
    generalize x % (m : Int) = R at *
    generalize x / (m : Int) = Q at *
    subst h3
    grind
  rw [h2]
  exact Int.dvd_sub h.cx (Int.dvd_mul_right _ _)
theorem EInv.fin2 {a0 m d : Nat} {x n : Int} (h : EInv a0 m 0 d x n) (hm : 0 < m) : EEnd a0 m (d : Int) ((x + (m : Int)) % (m : Int)) := by
  rw [Int.add_emod_right]
  exact h.fin hm
theorem wrapI {n : Int} (h : -9223372036854775808 ≤ n) (k : n < 9223372036854775808) : IntKind.i64.wrap n = n := by rw [IntKind.wrap_i64]; omega
theorem wrapJ {n : Int} (h : -9223372036854775808 ≤ n) (k : n < 9223372036854775808) : wrap64 n = n := by unfold wrap64; omega
/-- the inverse of a number -/
noncomputable def invN (m a : Nat) : Nat := Classical.epsilon (fun x => x < m ∧ a * x % m = 1)
theorem inv_unique {m a x y : Nat} (hx : x < m) (hy : y < m) (hax : a * x % m = 1) (hay : a * y % m = 1) : x = y := by
  have h1 : x * (a * y) % m = x := by rw [Nat.mul_mod, hay, Nat.mul_one, Nat.mod_mod, Nat.mod_eq_of_lt hx]
  have h2 : x * (a * y) % m = y := by rw [← Nat.mul_assoc, Nat.mul_comm x a, Nat.mul_mod, hax, Nat.one_mul, Nat.mod_mod, Nat.mod_eq_of_lt hy]
  exact h1.symm.trans h2
theorem invN_eq {m a x : Nat} (hx : x < m) (hax : a * x % m = 1) : invN m a = x := by
  have h := Classical.epsilon_spec (p := fun x => x < m ∧ a * x % m = 1) ⟨x, hx, hax⟩
  exact inv_unique h.1 hx h.2 hax
theorem EEnd.mul {a m : Nat} {d x : Int} (h : EEnd a m d x) (h1 : 1 < m) (hg : Nat.gcd a m = 1) : ∃ X : Nat, x = X ∧ a * X % m = 1 := by
  have hd := h.dg
  rw [hg] at hd
  obtain ⟨X, rfl⟩ : ∃ X : Nat, x = X := ⟨x.toNat, by have := h.x0; omega⟩
  have hc := h.cx
  rw [hd] at hc
  refine ⟨X, rfl, ?_⟩
  have h3 : Mr.C m ((a * X : Nat) : Int) ((1 : Nat) : Int) := by unfold Mr.C; rw [Int.natCast_mul]; exact hc
  have h4 := Mr.C.nat_iff.1 h3
  rwa [Nat.mod_eq_of_lt h1] at h4
theorem EEnd.inv {a m : Nat} {d x : Int} (h : EEnd a m d x) (h1 : 1 < m) (hg : Nat.gcd a m = 1) : d = 1 ∧ x = (invN m a : Nat) := by
  obtain ⟨X, rfl, hX⟩ := h.mul h1 hg
  have hx := h.xm
  exact ⟨by rw [h.dg, hg]; rfl, by rw [invN_eq (by omega) hX]⟩
theorem EInv.run {a0 m : Nat} (hm : 0 < m) (a : Nat) : ∀ {d : Nat} {x n : Int}, EInv a0 m a d x n → ∃ d x : Int, EEnd a0 m d x := by
  induction a using Nat.strongRecOn with
  | _ a ih =>
    intro d x n h
    rcases Nat.eq_zero_or_pos a with rfl | h0
    · exact ⟨_, _, h.fin hm⟩
    · exact ih (d % a) (Nat.mod_lt _ h0) (h.next h0)
theorem invN_spec {m a : Nat} (ha : a < m) (h1 : 1 < m) (hg : Nat.gcd a m = 1) : invN m a < m ∧ a * invN m a % m = 1 := by
  obtain ⟨d, x, h⟩ := EInv.run (by omega) a (EInv.start ha)
  obtain ⟨X, hX, hXm⟩ := h.mul h1 hg
  have := invN_eq (x := X) (m := m) (a := a) (by have := h.xm; omega) hXm
  rw [this]
  exact ⟨by have := h.xm; omega, hXm⟩
theorem gcd_pm {q a : Nat} (hq : Mr.Pm q) (h0 : 0 < a) (h1 : a < q) : Nat.gcd a q = 1 := by
  rcases hq.2 _ (Nat.gcd_dvd_right a q) with h | h
  · exact h
  · exfalso
    have := Nat.le_of_dvd h0 (h ▸ Nat.gcd_dvd_left a q)
    omega
end Go.Proofs.YtogbdnecpdcmiabDoor
/-
  The inverse modulo a number: word.euclid and word.Inverse.
-/
namespace Go.Proofs.YtogbdnecpdcmiabDoor
open Go Go.RowKit
/-- a round's numbers -/
theorem euclid_step {a m b d : Nat} {x n : Int} (h : EInv a m b d x n) (hb : 0 < b) (hm : m < 2305843009213693952) : ∃ (Q R : Nat) (N2 : Int) (QB : Nat) (T : Int), EInv a m R b n N2 ∧ R < b ∧ Q < 2305843009213693952 ∧ (d : Int) / (b : Int) = (Q : Int) ∧
    (-9223372036854775808 ≤ (Q : Int) * (b : Int) ∧ (Q : Int) * (b : Int) < 9223372036854775808 ∧ (Q : Int) * (b : Int) = (QB : Int)) ∧
    (-9223372036854775808 ≤ (d : Int) - (QB : Int) ∧ (d : Int) - (QB : Int) < 9223372036854775808 ∧ (d : Int) - (QB : Int) = (R : Int)) ∧
    (-9223372036854775808 ≤ (Q : Int) * n ∧ (Q : Int) * n < 9223372036854775808 ∧ (Q : Int) * n = T) ∧
    (-9223372036854775808 ≤ x - T ∧ x - T < 9223372036854775808 ∧ x - T = N2) := by
  have hN := h.next hb
  have k1 := h.bound
  have k2 := hN.bound
  have had := h.ad; have hdm := h.dm
  have hda := Nat.div_add_mod d b
  have hR := Nat.mod_lt d hb
  have e1 : ((d / b : Nat) : Int) * (b : Int) = ((b * (d / b) : Nat) : Int) := by rw [Int.natCast_mul, Int.mul_comm]
  refine ⟨d / b, d % b, x - ((d / b : Nat) : Int) * n, b * (d / b), ((d / b : Nat) : Int) * n, hN, hR, Nat.lt_of_le_of_lt (Nat.div_le_self d b) (by omega), (Int.natCast_ediv _ _).symm, ?_, ?_, ?_, ?_⟩
  · rw [e1]
    generalize b * (d / b) = QB at *
    exact ⟨by omega, by omega, rfl⟩
  · generalize b * (d / b) = QB at *
    generalize d % b = R at *
    exact ⟨by omega, by omega, by omega⟩
  · generalize ((d / b : Nat) : Int) * n = T at *
    exact ⟨by omega, by omega, rfl⟩
  · generalize ((d / b : Nat) : Int) * n = T at *
    exact ⟨by omega, by omega, rfl⟩
/-- the call returns what Euclid's algorithm ends with -/
def EuRet (a m : Nat) (w : World) (e : Ending) (w' : World) : Prop := ∃ d x : Int, EEnd a m d x ∧ RetQ (.tuple #[.int .i64 d, .int .i64 x]) w e w'
theorem euRet_of {a m : Nat} {d x : Int} {w w' : World} (h : EEnd a m d x) (k : Drew w w') : EuRet a m w (.returned (.tuple #[.int .i64 d, .int .i64 x])) w' := ⟨d, x, h, retq_of rfl k⟩
set_option maxRecDepth 100000 in
set_option maxHeartbeats 400000 in
theorem euclid_any (a m : Nat) (ha : a < m) (hm : m < 2305843009213693952) (w : World) :
    Calls Tryd.prog 43 #[.int .i64 a, .int .i64 m] w (EuRet a m w) := by
  go_enter Tryd.func43, Tryd.ntmps43
  go_wp2
  go_loop [0, 4, 5, 6] (fun va vd vx vn => ∃ (b d : Nat) (x n : Int), va = .int .i64 b ∧ vd = .int .i64 d ∧ vx = .int .i64 x ∧ vn = .int .i64 n ∧ EInv a m b d x n) (fun va _ _ _ => (intOf va).toNat)
  case atStart => exact ⟨a, m, 0, 1, rfl, rfl, rfl, rfl, EInv.start ha⟩
  case round =>
    obtain ⟨b, d, x, n, rfl, rfl, rfl, rfl, hI⟩ := hrel
    obtain ⟨bn, bx⟩ := hI.bound
    have had := hI.ad; have hdm := hI.dm
    have HI := Lib.hid hI
    clear hI
    by_cases h0 : b = 0
    · subst h0
      have t1 : (((0 : Nat) : Int) != 0) = false := rfl
      have hm0 : ¬ (m : Int) = 0 := by omega
      by_cases hx : x < 0
      · have t2 : decide (x < 0) = true := by simp; omega
        have g0 : 0 ≤ x + (m : Int) := by omega
        have hF := Lib.hid (HI.out.fin (by omega))
        have et : Int.tmod (x + (m : Int)) (m : Int) = (x + (m : Int)) % (m : Int) := Int.tmod_eq_emod_of_nonneg g0
        go_wp2
        go_quiet (fail)
        go_wp2
        go_ret2
        exact euRet_of hF.out ⟨_, rfl⟩
      · have t2 : decide (x < 0) = false := by simp; omega
        have g0 : 0 ≤ x := by omega
        have hF := Lib.hid (HI.out.fin (by omega))
        have et : Int.tmod x (m : Int) = x % (m : Int) := Int.tmod_eq_emod_of_nonneg g0
        go_wp2
        go_quiet (fail)
        go_wp2
        go_ret2
        exact euRet_of hF.out ⟨_, rfl⟩
    · have t1 : ((b : Int) != 0) = true := by simp; omega
      have hb0 : ¬ (b : Int) = 0 := by omega
      obtain ⟨Q, R, N2, QB, T, hN, hRb, hQ, e0, g1, g2, g3, g4⟩ := euclid_step HI.out (by omega) hm
      have e1 := (wrapJ g1.1 g1.2.1).trans g1.2.2
      have f1 := (wrapI g1.1 g1.2.1).trans g1.2.2
      have e2 := (wrapJ g2.1 g2.2.1).trans g2.2.2
      have f2 := (wrapI g2.1 g2.2.1).trans g2.2.2
      have e3 := (wrapJ g3.1 g3.2.1).trans g3.2.2
      have f3 := (wrapI g3.1 g3.2.1).trans g3.2.2
      have e4 := (wrapJ g4.1 g4.2.1).trans g4.2.2
      have f4 := (wrapI g4.1 g4.2.1).trans g4.2.2
      have HN := Lib.hid hN
      clear hN g1 g2 g3 g4 had hdm bn bx hm
      go_wp2
      go_round
      case rel => exact ⟨R, b, n, N2, rfl, rfl, rfl, rfl, HN.out⟩
      case measure => simp [intOf]; omega
set_option maxRecDepth 100000 in
set_option maxHeartbeats 1000000 in
theorem inverse_yes (a m : Nat) (ha : a < m) (h1 : 1 < m) (hm : m < 2305843009213693952) (hg : Nat.gcd a m = 1) (w : World) :
    Calls Tryd.prog 16 #[.int .i64 a, .int .i64 m] w (RetQ (.tuple #[.int .i64 (invN m a : Nat), .int .i64 0]) w) := by
  have HG := Lib.hid hg
  clear hg
  go_enter Tryd.func16, Tryd.ntmps16
  go_wp2_with (first
    | (go_at_call 42; refine (check_ok _ _ _ ha ha hm _).mono ?_; rintro e w' ⟨rfl, rfl⟩)
    | (go_at_call 43; refine (euclid_any _ _ ha hm _).mono ?_; rintro e w' ⟨d, x, hE, rfl, n, rfl⟩; obtain ⟨rfl, rfl⟩ := hE.inv h1 HG.out; clear hE))
  go_ret2
  exact retq_of rfl ⟨_, rfl⟩
set_option maxRecDepth 100000 in
set_option maxHeartbeats 1000000 in
theorem inverse_no (a m : Nat) (ha : a < m) (hm : m < 2305843009213693952) (hg : Nat.gcd a m ≠ 1) (w : World) :
    Calls Tryd.prog 16 #[.int .i64 a, .int .i64 m] w (RetQ (.tuple #[.int .i64 0, .int .i64 10]) w) := by
  have HG := Lib.hid hg
  clear hg
  go_enter Tryd.func16, Tryd.ntmps16
  go_wp2_with (first
    | (go_at_call 42; refine (check_ok _ _ _ ha ha hm _).mono ?_; rintro e w' ⟨rfl, rfl⟩)
    | (go_at_call 43; refine (euclid_any _ _ ha hm _).mono ?_; rintro e w' ⟨d, x, hE, rfl, n, rfl⟩; have hd : (d == 1) = false := (by have := hE.dg; have := HG.out; simp; omega); have hd2 : (d != 1) = true := (by have := hE.dg; have := HG.out; simp; omega); clear hE))
  go_ret2
  exact retq_of rfl ⟨_, rfl⟩
end Go.Proofs.YtogbdnecpdcmiabDoor
/-
  A whole block of memory: rows of cells of a call's own.
-/
namespace Go.Proofs.YtogbdnecpdcmiabDoor
open Go Go.RowKit
theorem below_dn {B : Nat} {a w : World} (h : Below B a w) (n : Nat) : Below B a (w.drewN n) := ⟨h.os, h.tape, h.output, h.size, h.block⟩
/-- block g is just these cells -/
def Blk (w : World) (g : Nat) (t : TypeId) (cs : Array Value) : Prop := w.heap[g]? = some (.cells cs t (0, 0))
theorem Blk.lt {w : World} {g : Nat} {t : TypeId} {cs : Array Value} (h : Blk w g t cs) : g < w.heap.size := by
  rcases Nat.lt_or_ge g w.heap.size with hlt | hge
  · exact hlt
  · unfold Blk at h; rw [Array.getElem?_eq_none hge] at h; cases h
theorem Blk.cell {w : World} {g : Nat} {t : TypeId} {cs : Array Value} (h : Blk w g t cs) (i : Nat) : w.cell? ⟨g, i, none⟩ = cs[i]? := cell_of_row w g i cs t (0, 0) h
theorem Blk.frozen {w : World} {g : Nat} {t : TypeId} {cs : Array Value} (h : Blk w g t cs) (i : Nat) : w.frozen? ⟨g, i, none⟩ = false := frozen_of_row w g i cs t h
theorem Blk.drewN {w : World} {g : Nat} {t : TypeId} {cs : Array Value} (h : Blk w g t cs) (n : Nat) : Blk (w.drewN n) g t cs := h
theorem Blk.below {w w' : World} {B g : Nat} {t : TypeId} {cs : Array Value} (h : Blk w g t cs) (hb : Below B w w') (hg : g < B) : Blk w' g t cs := (hb.block g hg).trans h
theorem Blk.far {w : World} {g : Nat} {t : TypeId} {cs : Array Value} (h : Blk w g t cs) {p : Addr} (hp : g ≠ p.block) (u : Value) : Blk (w.setCell p u) g t cs := (heap_setCell_other w p g u hp).trans h
theorem Blk.setRow {w : World} {g : Nat} {t : TypeId} {cs : Array Value} (h : Blk w g t cs) (ds : Array Value) : Blk (w.setRow g ds) g t ds := setRow_heap w g cs ds t _ h
theorem below_setRow {B g : Nat} {a w : World} (h : Below B a w) (hg : B ≤ g) (cs : Array Value) : Below B a (w.setRow g cs) :=
  h.trans ⟨rfl, rfl, rfl, by simp, fun k hk => setRow_other w g k cs (by omega)⟩
theorem results_cell_row_tmp {P : Program} {fn : Func} {p u : Tmp} {ty : TypeId} (h : fn.results = #[.cell p ty, .tmp u]) (tmps : Array Value) (w : World) (g : Nat) (t : TypeId) (cs : Array Value) (fr : Nat × Nat) (d : TypeDesc)
    (hp : tmps.getD p undef = .pointer (some ⟨g, 0, none⟩)) (hg : w.heap[g]? = some (.cells cs t fr))
    (hu : P.underlying ty = some d) (hd : (match d with | .struct _ | .array _ _ => true | _ => false) = true) (hi : (P.info? ty).map (·.size) = some cs.size) :
    (results fn tmps).run P w = .ok (.tuple #[.agg cs, tmps.getD u undef]) w := by
  rw [results_cell_tmp h, hp]
  simp [asAddr, Result.andThen, run_loadVar_row w g t ty cs fr d hg hu hd hi]
end Go.Proofs.YtogbdnecpdcmiabDoor
/-
  The group for a prime: plain facts.
-/
namespace Go.Proofs.YtogbdnecpdcmiabDoor
open Go
/-- some number below k + 2 is no root of 1 -/
theorem no_root {p k : Nat} (hp : Mr.Pm p) (hk : 0 < k) (hkp : k + 1 < p) : ∃ h, 2 ≤ h ∧ h ≤ k + 1 ∧ h ^ k % p ≠ 1 := by
  apply Classical.byContradiction
  intro hno
  have hall : ∀ h, 1 ≤ h → h ≤ k + 1 → h ^ k % p = 1 := by
    intro h h1 h2
    rcases Nat.lt_or_ge h 2 with h3 | h3
    · obtain rfl : h = 1 := by omega
      rw [Nat.one_pow, Nat.mod_eq_of_lt (by omega)]
    · exact Classical.byContradiction fun h4 => hno ⟨h, h3, h2, h4⟩
  have hle := Mr.roots_pow_le hp hk ((List.range (k + 1)).map (fun n : Nat => ((n + 1 : Nat) : Int))) (by
    rw [List.pairwise_map]
    refine List.Pairwise.imp_of_mem ?_ (List.nodup_range (n := k + 1))
    intro x y hx hy hne h
    have h1 := Mr.C.nat_iff.1 h
    rw [List.mem_range] at hx hy
    rw [Nat.mod_eq_of_lt (by omega), Nat.mod_eq_of_lt (by omega)] at h1
    omega) (by
    intro r hr
    rw [List.mem_map] at hr
    obtain ⟨n, hn, rfl⟩ := hr
    rw [List.mem_range] at hn
    rw [← Int.natCast_pow, show (1 : Int) = ((1 : Nat) : Int) from rfl]
    refine Mr.C.nat_iff.2 ?_
    rw [hall (n + 1) (by omega) (by omega), Nat.mod_eq_of_lt (by omega)])
  simp at hle
  omega
/-- the greatest k -/
def mkK (q : Int) : Nat := 2305843009213693950 / q.toNat
/-- what Make returns: the numbers of the group, and the error -/
def MakeR (q P Q G E : Int) : Prop :=
  (¬ (3 ≤ q ∧ isB q.toNat = true) ∧ P = 0 ∧ Q = 0 ∧ G = 0 ∧ E = 1) ∨
  (3 ≤ q ∧ isB q.toNat = true ∧ (∀ j : Nat, 1 ≤ j → j ≤ mkK q → isB (j * q.toNat + 1) = false) ∧ P = 0 ∧ Q = 0 ∧ G = 0 ∧ E = 9) ∨
  (3 ≤ q ∧ isB q.toNat = true ∧ ∃ k h : Nat, 1 ≤ k ∧ k ≤ mkK q ∧ isB (k * q.toNat + 1) = true ∧ (∀ j : Nat, 1 ≤ j → j < k → isB (j * q.toNat + 1) = false) ∧
    2 ≤ h ∧ h ≤ k + 1 ∧ h ^ k % (k * q.toNat + 1) ≠ 1 ∧ (∀ i : Nat, 2 ≤ i → i < h → i ^ k % (k * q.toNat + 1) = 1) ∧ P = (k * q.toNat + 1 : Nat) ∧ Q = q ∧ G = (h ^ k % (k * q.toNat + 1) : Nat) ∧ E = 0)
theorem MakeR.unique {q P Q G E P' Q' G' E' : Int} (h : MakeR q P Q G E) (k : MakeR q P' Q' G' E') : P = P' ∧ Q = Q' ∧ G = G' ∧ E = E' := by
  rcases h with ⟨a, rfl, rfl, rfl, rfl⟩ | ⟨a1, a2, a3, rfl, rfl, rfl, rfl⟩ | ⟨a1, a2, k1, h1, b1, b2, b3, b4, b5, b6, b7, b8, rfl, rfl, rfl, rfl⟩ <;>
  rcases k with ⟨c, rfl, rfl, rfl, rfl⟩ | ⟨c1, c2, c3, rfl, rfl, rfl, rfl⟩ | ⟨c1, c2, k2, h2, d1, d2, d3, d4, d5, d6, d7, d8, rfl, d9, rfl, rfl⟩
  · exact ⟨rfl, rfl, rfl, rfl⟩
  · exact absurd ⟨c1, c2⟩ a
  · exact absurd ⟨c1, c2⟩ a
  · exact absurd ⟨a1, a2⟩ c
  · exact ⟨rfl, rfl, rfl, rfl⟩
  · rw [a3 k2 d1 d2] at d3; cases d3
  · exact absurd ⟨a1, a2⟩ c
  · rw [c3 k1 b1 b2] at b3; cases b3
  · have hk : k1 = k2 := by
      rcases Nat.lt_trichotomy k1 k2 with h | h | h
      · rw [d4 k1 b1 h] at b3; cases b3
      · exact h
      · rw [b4 k2 d1 h] at d3; cases d3
    subst hk
    have hh : h1 = h2 := by
      rcases Nat.lt_trichotomy h1 h2 with h | h | h
      · exact absurd (d8 h1 b5 h) b7
      · exact h
      · exact absurd (b8 h2 d5 h) d7
    subst hh
    exact ⟨rfl, d9.symm, rfl, rfl⟩
theorem isB_even {n : Nat} (h : n % 2 = 0) (h2 : n ≠ 2) : isB n = false := isB_div (i := 0) (by omega) h h2
/-- the group that is made is valid -/
theorem MakeR.valid {q P Q G E : Int} (h : MakeR q P Q G E) (h0 : E = 0) : GSpec P Q G := by
  rcases h with ⟨_, _, _, _, rfl⟩ | ⟨_, _, _, _, _, _, rfl⟩ | ⟨a1, a2, k, h, b1, b2, b3, b4, b5, b6, b7, b8, rfl, rfl, rfl, rfl⟩
  · cases h0
  · cases h0
  · obtain ⟨n, rfl⟩ : ∃ n : Nat, Q = n := ⟨Q.toNat, by omega⟩
    rw [Int.toNat_natCast] at *
    have hkn : k * n ≤ 2305843009213693950 := by
      have h1 : k * n ≤ mkK n * n := Nat.mul_le_mul_right n b2
      unfold mkK at h1
      rw [Int.toNat_natCast] at h1
      exact Nat.le_trans h1 (Nat.div_mul_le_self _ _)
    have hkn3 : k * 3 ≤ k * n := Nat.mul_le_mul_left k (by omega)
    obtain ⟨p, hp⟩ : ∃ p, p = k * n + 1 := ⟨_, rfl⟩
    rw [← hp] at b3 b7 b8 ⊢
    have hP : Mr.Pm p := pm_of_is b3 (by omega)
    have hp2 : p % 2 = 1 := by
      rcases Nat.mod_two_eq_zero_or_one p with h5 | h5
      · rw [isB_even h5 (by omega)] at b3; cases b3
      · exact h5
    have hn2 : n % 2 = 1 := by
      rcases Nat.mod_two_eq_zero_or_one n with h5 | h5
      · rw [isB_even h5 (by omega)] at a2; cases a2
      · exact h5
    have hf : h ^ (p - 1) % p = 1 := by
      have h1 := Mr.fermat hP hp2 (a := h) (fun h5 => by have := Nat.le_of_dvd (by omega) h5; omega)
      rw [← Int.natCast_pow, show (1 : Int) = ((1 : Nat) : Int) from rfl] at h1
      have h2 := Mr.C.nat_iff.1 h1
      rw [h2, Nat.mod_eq_of_lt (by omega)]
    have hpw : (h ^ k % p) ^ n % p = 1 := by
      rw [← Nat.pow_mod, ← Nat.pow_mul, show k * n = p - 1 by omega]
      exact hf
    have hg0 : h ^ k % p ≠ 0 := by
      intro h5
      rw [h5, Nat.zero_pow (by omega)] at hpw
      simp at hpw
    have hgp : h ^ k % p < p := Nat.mod_lt _ (by omega)
    refine ⟨by omega, by omega, by omega, by omega, ?_, by omega, by omega, by rw [Int.toNat_natCast]; exact b3, by rw [Int.toNat_natCast]; exact a2, by rw [Int.toNat_natCast, Int.toNat_natCast, Int.toNat_natCast]; exact hpw⟩
    rw [show (p : Int) - 1 = ((k * n : Nat) : Int) by omega, ← Int.natCast_emod, Nat.mul_mod_left]
    rfl
end Go.Proofs.YtogbdnecpdcmiabDoor
/-
  The group for a prime: group.Make, and the reference's.
-/
namespace Go.Proofs.YtogbdnecpdcmiabDoor
open Go Go.RowKit
/-- what Make's call does -/
def MkRet (q : Int) (w : World) (e : Ending) (w' : World) : Prop := ∃ P Q G E, MakeR q P Q G E ∧ e = .returned (.tuple #[gV P Q G, .int .i64 E]) ∧ Below w.heap.size w w'
theorem mkRet_of {q P Q G E : Int} {w w' : World} (h : MakeR q P Q G E) (hb : Below w.heap.size w w') : MkRet q w (.returned (.tuple #[gV P Q G, .int .i64 E])) w' := ⟨P, Q, G, E, h, rfl, hb⟩
abbrev g3 (a b c : Int) : Array Value := #[.int .i64 a, .int .i64 b, .int .i64 c]
theorem g3_cells (a b c : Int) : (g3 a b c).all (·.oneCell') = true := by simp [Value.oneCell']
theorem g3_size : (Tryd.prog.info? 24).map (·.size) = some 3 := by kernel_rfl
set_option maxRecDepth 100000 in
set_option maxHeartbeats 1000000 in
theorem gmake_any (q : Int) (w : World) (q0 : -9223372036854775808 ≤ q) (q1 : q ≤ 9223372036854775807) (hT : Tabs w) : Calls Tryd.prog 7 #[.int .i64 q] w (MkRet q w) := by
  obtain ⟨W2, hW2, hBk⟩ : ∃ W2, W2 = w.alloc (.cells (g3 0 0 0) 24) ∧ Blk W2 w.heap.size 24 (g3 0 0 0) := ⟨_, rfl, heap_alloc_new _ _⟩
  have hb2 : Below w.heap.size w W2 := by rw [hW2]; exact below_alloc _ _
  have hT2 : Tabs W2 := hT.below hb2
  have HT2 := Lib.hid hT2; have HBK := Lib.hid hBk; have HB2 := Lib.hid hb2
  unfold g3 at hW2
  clear hT hT2 hBk hb2
  have hs := g3_size
  have HS := Lib.hid hs
  clear hs
  by_cases hok : 3 ≤ q ∧ isB q.toNat = true
  · obtain ⟨h3, hiq⟩ := hok
    obtain ⟨n, rfl⟩ : ∃ n : Nat, q = n := ⟨q.toNat, by omega⟩
    rw [Int.toNat_natCast] at hiq
    have hn2 : n % 2 = 1 := by
      rcases Nat.mod_two_eq_zero_or_one n with h5 | h5
      · rw [isB_even h5 (by omega)] at hiq; cases hiq
      · exact h5
    have HIQ := Lib.hid hiq
    have t0 : decide ((n : Int) < 3) = false := by simp; omega
    have t1 : ((n : Int) % 2 == 0) = false := by simp; omega
    clear hiq
    go_enter Tryd.func7, Tryd.ntmps7
    go_upto_region 1 with (fail)
    rw [← hW2]
    obtain ⟨B2, hB2⟩ : ∃ B2, B2 = w.heap.size := ⟨_, rfl⟩
    rw [← hB2] at HBK ⊢
    have HE2 := Lib.hid hB2
    clear hW2 hB2
    obtain ⟨K, hK⟩ : ∃ K, K = mkK n := ⟨_, rfl⟩
    have hKd : (2305843009213693950 : Int) / (n : Int) = (K : Int) := by
      rw [hK, mkK, Int.toNat_natCast, Int.natCast_ediv]; rfl
    have hKn : K * n ≤ 2305843009213693950 := by
      rw [hK, mkK, Int.toNat_natCast]; exact Nat.div_mul_le_self _ _
    have hKs : K ≤ 2305843009213693950 := by
      have : K * 1 ≤ K * n := Nat.mul_le_mul_left K (by omega)
      omega
    have HK := Lib.hid hK
    have HKN := Lib.hid hKn
    have n0 : ¬ (n : Int) = 0 := by omega
    clear hK hKn
    go_upto_region 3 with (go_at_call 29; refine (is_all _ _ q1 HT2.out).mono ?_; rintro e w' ⟨rfl, hw⟩; rw [Int.toNat_natCast, HIQ.out])
    go_upto_region 4 with (fail)
    have hodd : ∀ j : Nat, j % 2 = 1 → isB (j * n + 1) = false := fun j hj => by
      have h1 : j * n % 2 = 1 := by rw [Nat.mul_mod, hj, hn2]
      have h2 : 1 * n ≤ j * n := Nat.mul_le_mul_right n (by omega)
      exact isB_even (by omega) (by omega)
    have HODD := Lib.hid hodd
    clear hodd t0 t1
    go_loopw [4, 5] (fun vk _ wr => ∃ k : Nat, vk = .int .i64 k ∧ 2 ≤ k ∧ k ≤ K + 2 ∧ k % 2 = 0 ∧ (∀ j : Nat, 1 ≤ j → j < k → isB (j * n + 1) = false) ∧ Drew W2 wr) (fun vk _ _ => K + 2 - (intOf vk).toNat)
    case atStart => exact ⟨2, rfl, by omega, by omega, by omega, fun j h1 h2 => by rw [show j = 1 by omega]; exact HODD.out 1 rfl, hw⟩
    case round =>
      obtain ⟨k, rfl, hk2, hkK, hke, hno, hd⟩ := hrel
      have HNO := Lib.hid hno
      clear hno
      by_cases hlt : k ≤ K
      · obtain ⟨m, hm⟩ : ∃ m, m = k * n := ⟨_, rfl⟩
        have e1 : (k : Int) * (n : Int) = (m : Int) := by rw [hm, Int.natCast_mul]
        have hmb : m ≤ 2305843009213693950 := by
          have h1 : k * n ≤ K * n := Nat.mul_le_mul_right n hlt
          have := HKN.out
          omega
        have hm3 : k * 3 ≤ m := by rw [hm]; exact Nat.mul_le_mul_left k (by omega)
        have HM := Lib.hid hm
        clear hm
        have etn : ((m : Int) + 1).toNat = m + 1 := by omega
        have hTr : Tabs wr := HT2.out.below hd.below
        have HTR := Lib.hid hTr; have ETN := Lib.hid etn
        clear hTr etn
        have t2 : decide ((k : Int) ≤ (K : Int)) = true := by simp; omega
        rw [← hKd] at t2
        cases hip : isB (m + 1)
        · have HIP := Lib.hid hip
          clear hip
          go_upto_region 5 with (go_at_call 29; refine (is_all _ _ (by omega) HTR.out).mono ?_; rintro e w' ⟨rfl, hw2⟩; rw [ETN.out, HIP.out]; have hd := drew_next hd hw2; clear hw2)
          go_wp2
          go_roundw
          case rel =>
            refine ⟨k + 2, by go_num, by omega, by omega, by omega, fun j h1 h2 => ?_, hd⟩
            rcases Nat.lt_trichotomy j k with h5 | h5 | h5
            · exact HNO.out j h1 h5
            · rw [h5, ← HM.out]; exact HIP.out
            · exact HODD.out j (by omega)
          case measure => simp [intOf]; omega
        · obtain ⟨h0, g1, g2, g3'⟩ := no_root (pm_of_is hip (by omega)) (k := k) (by omega) (by omega)
          have HIP := Lib.hid hip; have HG3 := Lib.hid g3'
          clear hip g3'
          go_upto_region 9 with (go_at_call 29; refine (is_all _ _ (by omega) HTR.out).mono ?_; rintro e w' ⟨rfl, hw2⟩; rw [ETN.out, HIP.out]; have hd := drew_next hd hw2; clear hw2)
          go_loopw [6, 7, 8] (fun vh _ _ w4 => ∃ h : Nat, vh = .int .i64 h ∧ 2 ≤ h ∧ h ≤ h0 ∧ (∀ i : Nat, 2 ≤ i → i < h → i ^ k % (m + 1) = 1) ∧ Drew W2 w4) (fun vh _ _ _ => h0 - (intOf vh).toNat)
          case atStart => exact ⟨2, rfl, by omega, g1, fun i h1 h2 => by omega, hd⟩
          case round =>
            obtain ⟨h, rfl, hh2, hh0, hall, hd4⟩ := hrel
            have HALL := Lib.hid hall
            clear hall hd
            obtain ⟨X, hX⟩ : ∃ X, X = h ^ k % (m + 1) := ⟨_, rfl⟩
            have hXb : X < m + 1 := by rw [hX]; exact Nat.mod_lt _ (by omega)
            have HX := Lib.hid hX
            clear hX
            by_cases hx1 : X = 1
            · have t3 : ((X : Int) != 1) = false := by simp; omega
              have hlt0 : h < h0 := by
                rcases Nat.lt_or_ge h h0 with h5 | h5
                · exact h5
                · have h6 : h = h0 := by omega
                  rw [h6] at HX
                  exact absurd (HX.out.symm.trans hx1) HG3.out
              have HX1 := Lib.hid hx1
              clear hx1
              go_upto_region 11 with (go_at_call 30; refine (wpow_z _ _ _ (by omega) (by omega) (by omega) (by omega) (by omega) _).mono ?_; rintro e w' ⟨rfl, hw2⟩; rw [ETN.out, Int.toNat_natCast, Int.toNat_natCast, ← HX.out]; have hd4 := drew_next hd4 hw2; clear hw2)
              go_wp2
              go_roundw
              case rel =>
                refine ⟨h + 1, by go_num, by omega, by omega, fun i h1 h2 => ?_, hd4⟩
                rcases Nat.lt_or_ge i h with h5 | h5
                · exact HALL.out i h1 h5
                · rw [show i = h by omega, ← HX.out, HX1.out]
              case measure => simp [intOf]; omega
            · have t3 : ((X : Int) != 1) = true := by simp; omega
              have hr : MakeR n ((m : Int) + 1) n X 0 := by
                refine Or.inr (Or.inr ⟨h3, by rw [Int.toNat_natCast]; exact HIQ.out, k, h, by omega, by rw [← HK.out]; exact hlt, ?_, ?_, hh2, by omega, ?_, ?_, ?_, rfl, ?_, rfl⟩) <;> simp only [Int.toNat_natCast, ← HM.out]
                · exact HIP.out
                · exact HNO.out
                · rw [← HX.out]; exact hx1
                · exact HALL.out
                · omega
                · rw [← HX.out]
              have HR := Lib.hid hr
              have hbd := hd4.below
              clear hr hx1
              go_wp2_with (first
                | (go_at_call 30; refine (wpow_z _ _ _ (by omega) (by omega) (by omega) (by omega) (by omega) _).mono ?_; rintro e w' ⟨rfl, hw2⟩; rw [ETN.out, Int.toNat_natCast, Int.toNat_natCast, ← HX.out]; have hd5 := drew_next hd4 hw2; clear hw2)
                | (refine wpList_store_row rfl _ _ _ rfl B2 (g3 ((m : Int) + 1) n X) rfl rfl _ _ (HBK.out.below hd5.below HBK.out.lt) HS.out rfl (g3_cells _ _ _) ?_))
              refine bodyPost_ret (results_cell_row_tmp rfl _ _ B2 _ (g3 ((m : Int) + 1) n X) _ _ rfl ((HBK.out.below hd5.below HBK.out.lt).setRow _) Tryd.underlying24 rfl HS.out) rfl ?_
              exact mkRet_of HR.out (below_setRow (below_next HB2.out hd5.below) (by rw [HE2.out]; exact Nat.le_refl _) _)
      · have t2 : decide ((k : Int) ≤ (K : Int)) = false := by simp; omega
        rw [← hKd] at t2
        have hr : MakeR n 0 0 0 9 := by
          refine Or.inr (Or.inl ⟨h3, by rw [Int.toNat_natCast]; exact HIQ.out, fun j h1 h2 => ?_, rfl, rfl, rfl, rfl⟩)
          rw [Int.toNat_natCast]
          rw [← HK.out] at h2
          exact HNO.out j h1 (by omega)
        have HR := Lib.hid hr
        clear hr
        go_wp2_with (refine wpList_store_row rfl _ _ _ rfl B2 (g3 0 0 0) rfl rfl _ _ (HBK.out.below hd.below HBK.out.lt) HS.out rfl (g3_cells _ _ _) ?_)
        refine bodyPost_ret (results_cell_row_tmp rfl _ _ B2 _ (g3 0 0 0) _ _ rfl ((HBK.out.below hd.below HBK.out.lt).setRow _) Tryd.underlying24 rfl HS.out) rfl ?_
        exact mkRet_of HR.out (below_setRow (below_next HB2.out hd.below) (by rw [HE2.out]; exact Nat.le_refl _) _)
  · have hr : MakeR q 0 0 0 1 := Or.inl ⟨hok, rfl, rfl, rfl, rfl⟩
    have HR := Lib.hid hr
    clear hr
    go_enter Tryd.func7, Tryd.ntmps7
    go_upto_region 1 with (fail)
    rw [← hW2]
    obtain ⟨B2, hB2⟩ : ∃ B2, B2 = w.heap.size := ⟨_, rfl⟩
    rw [← hB2] at HBK ⊢
    have HE2 := Lib.hid hB2
    clear hW2 hB2
    by_cases h3 : q < 3
    · have t0 : decide (q < 3) = true := by simp; omega
      go_wp2_with (refine wpList_store_row rfl _ _ _ rfl B2 (g3 0 0 0) rfl rfl _ _ HBK.out HS.out rfl (g3_cells 0 0 0) ?_)
      refine bodyPost_ret (results_cell_row_tmp rfl _ _ B2 _ (g3 0 0 0) _ _ rfl (HBK.out.setRow _) Tryd.underlying24 rfl HS.out) rfl ?_
      exact mkRet_of HR.out (below_setRow HB2.out (by rw [HE2.out]; exact Nat.le_refl _) _)
    · have hb : isB q.toNat = false := by
        cases h5 : isB q.toNat
        · rfl
        · exact absurd ⟨by omega, h5⟩ hok
      have t0 : decide (q < 3) = false := by simp; omega
      have hm : 0 ≤ q % 2 ∧ q % 2 < 2 := ⟨Int.emod_nonneg _ (by decide), Int.emod_lt_of_pos _ (by decide)⟩
      by_cases h2 : q % 2 = 0
      · have t1 : (q % 2 == 0) = true := by simp; omega
        go_wp2_with (refine wpList_store_row rfl _ _ _ rfl B2 (g3 0 0 0) rfl rfl _ _ HBK.out HS.out rfl (g3_cells 0 0 0) ?_)
        refine bodyPost_ret (results_cell_row_tmp rfl _ _ B2 _ (g3 0 0 0) _ _ rfl (HBK.out.setRow _) Tryd.underlying24 rfl HS.out) rfl ?_
        exact mkRet_of HR.out (below_setRow HB2.out (by rw [HE2.out]; exact Nat.le_refl _) _)
      · have t1 : (q % 2 == 0) = false := by simp; omega
        go_wp2_with (first
          | (go_at_call 29; refine (is_all q _ q1 HT2.out).mono ?_; rintro e w' ⟨rfl, hw⟩; rw [hb])
          | (refine wpList_store_row rfl _ _ _ rfl B2 (g3 0 0 0) rfl rfl _ _ (HBK.out.below hw.below HBK.out.lt) HS.out rfl (g3_cells 0 0 0) ?_))
        refine bodyPost_ret (results_cell_row_tmp rfl _ _ B2 _ (g3 0 0 0) _ _ rfl ((HBK.out.below hw.below HBK.out.lt).setRow _) Tryd.underlying24 rfl HS.out) rfl ?_
        exact mkRet_of HR.out (below_setRow (below_next HB2.out hw.below) (by rw [HE2.out]; exact Nat.le_refl _) _)
end Go.Proofs.YtogbdnecpdcmiabDoor
/-
  The group for a prime: the reference's Make.
-/
namespace Go.Proofs.YtogbdnecpdcmiabDoor
open Go Go.RowKit
set_option maxRecDepth 100000 in
set_option maxHeartbeats 1000000 in
theorem rmake_any (q : Int) (w : World) (_q0 : -9223372036854775808 ≤ q) (q1 : q < 2305843009213693952) : Calls Tryd.prog 8 #[.int .i64 q] w (MkRet q w) := by
  obtain ⟨W2, hW2, hBk⟩ : ∃ W2, W2 = w.alloc (.cells (g3 0 0 0) 24) ∧ Blk W2 w.heap.size 24 (g3 0 0 0) := ⟨_, rfl, heap_alloc_new _ _⟩
  have hb2 : Below w.heap.size w W2 := by rw [hW2]; exact below_alloc _ _
  have HBK := Lib.hid hBk; have HB2 := Lib.hid hb2
  unfold g3 at hW2
  clear hBk hb2
  have hs := g3_size
  have HS := Lib.hid hs
  clear hs
  by_cases hok : 3 ≤ q ∧ isB q.toNat = true
  · obtain ⟨h3, hiq⟩ := hok
    obtain ⟨n, rfl⟩ : ∃ n : Nat, q = n := ⟨q.toNat, by omega⟩
    rw [Int.toNat_natCast] at hiq
    have hn2 : n % 2 = 1 := by
      rcases Nat.mod_two_eq_zero_or_one n with h5 | h5
      · rw [isB_even h5 (by omega)] at hiq; cases hiq
      · exact h5
    have HIQ := Lib.hid hiq
    have t0 : decide ((n : Int) < 3) = false := by simp; omega
    clear hiq
    go_enter Tryd.func8, Tryd.ntmps8
    go_upto_region 1 with (fail)
    rw [← hW2]
    obtain ⟨B2, hB2⟩ : ∃ B2, B2 = w.heap.size := ⟨_, rfl⟩
    rw [← hB2] at HBK ⊢
    have HE2 := Lib.hid hB2
    clear hW2 hB2
    obtain ⟨K, hK⟩ : ∃ K, K = mkK n := ⟨_, rfl⟩
    have hKd : (2305843009213693950 : Int) / (n : Int) = (K : Int) := by
      rw [hK, mkK, Int.toNat_natCast, Int.natCast_ediv]; rfl
    have hKn : K * n ≤ 2305843009213693950 := by
      rw [hK, mkK, Int.toNat_natCast]; exact Nat.div_mul_le_self _ _
    have hKs : K ≤ 2305843009213693950 := by
      have : K * 1 ≤ K * n := Nat.mul_le_mul_left K (by omega)
      omega
    have HK := Lib.hid hK
    have HKN := Lib.hid hKn
    have n0 : ¬ (n : Int) = 0 := by omega
    clear hK hKn
    go_upto_region 3 with (go_at_call 31; refine (ris_z _ (by omega) q1 _).mono ?_; rintro e w' ⟨rfl, hw⟩; rw [Int.toNat_natCast, HIQ.out])
    go_upto_region 4 with (fail)
    have hodd : ∀ j : Nat, j % 2 = 1 → isB (j * n + 1) = false := fun j hj => by
      have h1 : j * n % 2 = 1 := by rw [Nat.mul_mod, hj, hn2]
      have h2 : 1 * n ≤ j * n := Nat.mul_le_mul_right n (by omega)
      exact isB_even (by omega) (by omega)
    have HODD := Lib.hid hodd
    clear hodd t0
    go_loopw [4, 5] (fun vk _ wr => ∃ k : Nat, vk = .int .i64 k ∧ 1 ≤ k ∧ k ≤ K + 1 ∧ (∀ j : Nat, 1 ≤ j → j < k → isB (j * n + 1) = false) ∧ Below W2.heap.size W2 wr) (fun vk _ _ => K + 1 - (intOf vk).toNat)
    case atStart => exact ⟨1, rfl, by omega, by omega, fun j h1 h2 => by omega, hw⟩
    case round =>
      obtain ⟨k, rfl, hk2, hkK, hno, hd⟩ := hrel
      have HNO := Lib.hid hno
      clear hno
      by_cases hlt : k ≤ K
      · obtain ⟨m, hm⟩ : ∃ m, m = k * n := ⟨_, rfl⟩
        have e1 : (k : Int) * (n : Int) = (m : Int) := by rw [hm, Int.natCast_mul]
        have hmb : m ≤ 2305843009213693950 := by
          have h1 : k * n ≤ K * n := Nat.mul_le_mul_right n hlt
          have := HKN.out
          omega
        have hm3 : k * 3 ≤ m := by rw [hm]; exact Nat.mul_le_mul_left k (by omega)
        have HM := Lib.hid hm
        clear hm
        have etn : ((m : Int) + 1).toNat = m + 1 := by omega
        have ETN := Lib.hid etn
        clear etn
        have t2 : decide ((k : Int) ≤ (K : Int)) = true := by simp; omega
        rw [← hKd] at t2
        cases hip : isB (m + 1)
        · have HIP := Lib.hid hip
          clear hip
          go_upto_region 5 with (go_at_call 31; refine (ris_z _ (by omega) (by omega) _).mono ?_; rintro e w' ⟨rfl, hw2⟩; rw [ETN.out, HIP.out]; have hd := below_next hd hw2; clear hw2)
          go_wp2
          go_roundw
          case rel =>
            refine ⟨k + 1, by go_num, by omega, by omega, fun j h1 h2 => ?_, hd⟩
            rcases Nat.lt_or_ge j k with h5 | h5
            · exact HNO.out j h1 h5
            · rw [show j = k by omega, ← HM.out]; exact HIP.out
          case measure => simp [intOf]; omega
        · obtain ⟨h0, g1, g2, g3'⟩ := no_root (pm_of_is hip (by omega)) (k := k) (by omega) (by omega)
          have HIP := Lib.hid hip; have HG3 := Lib.hid g3'
          clear hip g3'
          go_upto_region 9 with (go_at_call 31; refine (ris_z _ (by omega) (by omega) _).mono ?_; rintro e w' ⟨rfl, hw2⟩; rw [ETN.out, HIP.out]; have hd := below_next hd hw2; clear hw2)
          go_loopw [6, 7] (fun vh _ w4 => ∃ h : Nat, vh = .int .i64 h ∧ 2 ≤ h ∧ h ≤ h0 ∧ (∀ i : Nat, 2 ≤ i → i < h → i ^ k % (m + 1) = 1) ∧ Below W2.heap.size W2 w4) (fun vh _ _ => h0 - (intOf vh).toNat)
          case atStart => exact ⟨2, rfl, by omega, g1, fun i h1 h2 => by omega, hd⟩
          case round =>
            obtain ⟨h, rfl, hh2, hh0, hall, hd4⟩ := hrel
            have HALL := Lib.hid hall
            clear hall hd
            obtain ⟨X, hX⟩ : ∃ X, X = h ^ k % (m + 1) := ⟨_, rfl⟩
            have hXb : X < m + 1 := by rw [hX]; exact Nat.mod_lt _ (by omega)
            have HX := Lib.hid hX
            clear hX
            by_cases hx1 : X = 1
            · have t3 : ((X : Int) != 1) = false := by simp; omega
              have hlt0 : h < h0 := by
                rcases Nat.lt_or_ge h h0 with h5 | h5
                · exact h5
                · have h6 : h = h0 := by omega
                  rw [h6] at HX
                  exact absurd (HX.out.symm.trans hx1) HG3.out
              have HX1 := Lib.hid hx1
              clear hx1
              go_upto_region 11 with (go_at_call 32; refine (rpow_z _ _ _ (by omega) (by omega) (by omega) (by omega) (by omega) _).mono ?_; rintro e w' ⟨rfl, hw2⟩; rw [ETN.out, Int.toNat_natCast, Int.toNat_natCast, ← HX.out]; have hd4 := below_next hd4 hw2.below; clear hw2)
              go_wp2
              go_roundw
              case rel =>
                refine ⟨h + 1, by go_num, by omega, by omega, fun i h1 h2 => ?_, hd4⟩
                rcases Nat.lt_or_ge i h with h5 | h5
                · exact HALL.out i h1 h5
                · rw [show i = h by omega, ← HX.out, HX1.out]
              case measure => simp [intOf]; omega
            · have t3 : ((X : Int) != 1) = true := by simp; omega
              have hr : MakeR n ((m : Int) + 1) n X 0 := by
                refine Or.inr (Or.inr ⟨h3, by rw [Int.toNat_natCast]; exact HIQ.out, k, h, by omega, by rw [← HK.out]; exact hlt, ?_, ?_, hh2, by omega, ?_, ?_, ?_, rfl, ?_, rfl⟩) <;> simp only [Int.toNat_natCast, ← HM.out]
                · exact HIP.out
                · exact HNO.out
                · rw [← HX.out]; exact hx1
                · exact HALL.out
                · omega
                · rw [← HX.out]
              have HR := Lib.hid hr
              clear hr hx1
              go_wp2_with (first
                | (go_at_call 32; refine (rpow_z _ _ _ (by omega) (by omega) (by omega) (by omega) (by omega) _).mono ?_; rintro e w' ⟨rfl, hw2⟩; rw [ETN.out, Int.toNat_natCast, Int.toNat_natCast, ← HX.out]; have hd5 := below_next hd4 hw2.below; clear hw2)
                | (refine wpList_store_row rfl _ _ _ rfl B2 (g3 ((m : Int) + 1) n X) rfl rfl _ _ (HBK.out.below hd5 HBK.out.lt) HS.out rfl (g3_cells _ _ _) ?_))
              refine bodyPost_ret (results_cell_row_tmp rfl _ _ B2 _ (g3 ((m : Int) + 1) n X) _ _ rfl ((HBK.out.below hd5 HBK.out.lt).setRow _) Tryd.underlying24 rfl HS.out) rfl ?_
              exact mkRet_of HR.out (below_setRow (below_next HB2.out hd5) (by rw [HE2.out]; exact Nat.le_refl _) _)
      · have t2 : decide ((k : Int) ≤ (K : Int)) = false := by simp; omega
        rw [← hKd] at t2
        have hr : MakeR n 0 0 0 9 := by
          refine Or.inr (Or.inl ⟨h3, by rw [Int.toNat_natCast]; exact HIQ.out, fun j h1 h2 => ?_, rfl, rfl, rfl, rfl⟩)
          rw [Int.toNat_natCast]
          rw [← HK.out] at h2
          exact HNO.out j h1 (by omega)
        have HR := Lib.hid hr
        clear hr
        go_wp2_with (refine wpList_store_row rfl _ _ _ rfl B2 (g3 0 0 0) rfl rfl _ _ (HBK.out.below hd HBK.out.lt) HS.out rfl (g3_cells _ _ _) ?_)
        refine bodyPost_ret (results_cell_row_tmp rfl _ _ B2 _ (g3 0 0 0) _ _ rfl ((HBK.out.below hd HBK.out.lt).setRow _) Tryd.underlying24 rfl HS.out) rfl ?_
        exact mkRet_of HR.out (below_setRow (below_next HB2.out hd) (by rw [HE2.out]; exact Nat.le_refl _) _)
  · have hr : MakeR q 0 0 0 1 := Or.inl ⟨hok, rfl, rfl, rfl, rfl⟩
    have HR := Lib.hid hr
    clear hr
    go_enter Tryd.func8, Tryd.ntmps8
    go_upto_region 1 with (fail)
    rw [← hW2]
    obtain ⟨B2, hB2⟩ : ∃ B2, B2 = w.heap.size := ⟨_, rfl⟩
    rw [← hB2] at HBK ⊢
    have HE2 := Lib.hid hB2
    clear hW2 hB2
    by_cases h3 : q < 3
    · have t0 : decide (q < 3) = true := by simp; omega
      go_wp2_with (refine wpList_store_row rfl _ _ _ rfl B2 (g3 0 0 0) rfl rfl _ _ HBK.out HS.out rfl (g3_cells 0 0 0) ?_)
      refine bodyPost_ret (results_cell_row_tmp rfl _ _ B2 _ (g3 0 0 0) _ _ rfl (HBK.out.setRow _) Tryd.underlying24 rfl HS.out) rfl ?_
      exact mkRet_of HR.out (below_setRow HB2.out (by rw [HE2.out]; exact Nat.le_refl _) _)
    · have hb : isB q.toNat = false := by
        cases h5 : isB q.toNat
        · rfl
        · exact absurd ⟨by omega, h5⟩ hok
      have t0 : decide (q < 3) = false := by simp; omega
      go_wp2_with (first
        | (go_at_call 31; refine (ris_z q (by omega) q1 _).mono ?_; rintro e w' ⟨rfl, hw⟩; rw [hb])
        | (refine wpList_store_row rfl _ _ _ rfl B2 (g3 0 0 0) rfl rfl _ _ (HBK.out.below hw HBK.out.lt) HS.out rfl (g3_cells 0 0 0) ?_))
      refine bodyPost_ret (results_cell_row_tmp rfl _ _ B2 _ (g3 0 0 0) _ _ rfl ((HBK.out.below hw HBK.out.lt).setRow _) Tryd.underlying24 rfl HS.out) rfl ?_
      exact mkRet_of HR.out (below_setRow (below_next HB2.out hw) (by rw [HE2.out]; exact Nat.le_refl _) _)
end Go.Proofs.YtogbdnecpdcmiabDoor
/-
  Contracts of slices.Sort and slices.Equal at []int, out of the shelf of contracts, at this program (by the shelf's own programs, in plain words).
-/
namespace Go.Proofs
open Go.Shelf
def Tryd.lays189_ren : Go.Shelf.Ren := ⟨fun | 189 => 51 | 125 => 71 | 257 => 70 | 128 => 101 | 129 => 78 | 294 => 92 | 295 => 93 | 296 => 94 | 297 => 95 | 298 => 96 | 299 => 97 | 216 => 98 | 300 => 99 | 301 => 100 | 328 => 115 | 329 => 116 | 330 => 117 | 331 => 118 | 332 => 119 | 215 => 120 | 343 => 130 | n => n, fun | 28 => 54 | 3 => 3 | 46 => 76 | 0 => 0 | 51 => 115 | 53 => 72 | 4 => 4 | 183 => 133 | 182 => 132 | 131 => 69 | 5 => 5 | 9 => 9 | 218 => 153 | 222 => 157 | 228 => 162 | 229 => 66 | n => n, fun | n => n⟩
theorem Tryd.lays189 : Go.Proofs.Lays.n189 Tryd.prog Tryd.lays189_ren := {
  mixed := by kernel_rfl
  f125 := Tryd.func71.trans (congrArg some (by kernel_rfl))
  f128 := Tryd.func101.trans (congrArg some (by kernel_rfl))
  f129 := Tryd.func78.trans (congrArg some (by kernel_rfl))
  f189 := Tryd.func51.trans (congrArg some (by kernel_rfl))
  f215 := Tryd.func120.trans (congrArg some (by kernel_rfl))
  f216 := Tryd.func98.trans (congrArg some (by kernel_rfl))
  f257 := Tryd.func70.trans (congrArg some (by kernel_rfl))
  f294 := Tryd.func92.trans (congrArg some (by kernel_rfl))
  f295 := Tryd.func93.trans (congrArg some (by kernel_rfl))
  f296 := Tryd.func94.trans (congrArg some (by kernel_rfl))
  f297 := Tryd.func95.trans (congrArg some (by kernel_rfl))
  f298 := Tryd.func96.trans (congrArg some (by kernel_rfl))
  f299 := Tryd.func97.trans (congrArg some (by kernel_rfl))
  f300 := Tryd.func99.trans (congrArg some (by kernel_rfl))
  f301 := Tryd.func100.trans (congrArg some (by kernel_rfl))
  f328 := Tryd.func115.trans (congrArg some (by kernel_rfl))
  f329 := Tryd.func116.trans (congrArg some (by kernel_rfl))
  f330 := Tryd.func117.trans (congrArg some (by kernel_rfl))
  f331 := Tryd.func118.trans (congrArg some (by kernel_rfl))
  f332 := Tryd.func119.trans (congrArg some (by kernel_rfl))
  f343 := Tryd.func130.trans (congrArg some (by kernel_rfl))
  t0 := Tryd.underlying0
  a0 := Tryd.isAgg0
  z0 := Tryd.sizeOf0
  v0 := Tryd.zeroValue0
  t3 := Tryd.underlying3
  a3 := Tryd.isAgg3
  z3 := Tryd.sizeOf3
  v3 := Tryd.zeroValue3
  t4 := Tryd.underlying4
  a4 := Tryd.isAgg4
  z4 := Tryd.sizeOf4
  v4 := Tryd.zeroValue4
  t5 := Tryd.underlying5
  a5 := Tryd.isAgg5
  z5 := Tryd.sizeOf5
  v5 := Tryd.zeroValue5
  t9 := Tryd.underlying9
  a9 := Tryd.isAgg9
  z9 := Tryd.sizeOf9
  v9 := Tryd.zeroValue9
  t28 := Tryd.underlying54
  a28 := Tryd.isAgg54
  z28 := Tryd.sizeOf54
  v28 := Tryd.zeroValue54
  t46 := Tryd.underlying76
  a46 := Tryd.isAgg76
  z46 := Tryd.sizeOf76
  v46 := Tryd.zeroValue76
  t51 := Tryd.underlying115
  a51 := Tryd.isAgg115
  z51 := Tryd.sizeOf115
  v51 := Tryd.zeroValue115
  t53 := Tryd.underlying72
  a53 := Tryd.isAgg72
  z53 := Tryd.sizeOf72
  v53 := Tryd.zeroValue72
  t131 := Tryd.underlying69
  a131 := Tryd.isAgg69
  z131 := Tryd.sizeOf69
  v131 := Tryd.zeroValue69
  t182 := Tryd.underlying132
  a182 := Tryd.isAgg132
  z182 := Tryd.sizeOf132
  v182 := Tryd.zeroValue132
  t183 := Tryd.underlying133
  a183 := Tryd.isAgg133
  z183 := Tryd.sizeOf133
  v183 := Tryd.zeroValue133
  t218 := Tryd.underlying153
  a218 := Tryd.isAgg153
  z218 := Tryd.sizeOf153
  v218 := Tryd.zeroValue153
  t222 := Tryd.underlying157
  a222 := Tryd.isAgg157
  z222 := Tryd.sizeOf157
  v222 := Tryd.zeroValue157
  t228 := Tryd.underlying162
  a228 := Tryd.isAgg162
  z228 := Tryd.sizeOf162
  v228 := Tryd.zeroValue162
  t229 := Tryd.underlying66
  a229 := Tryd.isAgg66
  z229 := Tryd.sizeOf66
  v229 := Tryd.zeroValue66 }
open Go.Sort Go.RowKit in
theorem Tryd.slices_Sort_int (blk off cap : Nat) (zs : List Int) (w : World) (hH : Holds (Value.int .i64) w blk off zs.toArray) (hblk : blk < w.heap.size) (hsz : zs.length < 4611686018427387904) :
    Calls Tryd.prog 51 #[.slice (some ⟨blk, off, none⟩) zs.length cap] w fun e w' =>
      e = .returned (.tuple #[]) ∧ ∃ n os, w' = grow (putRow (Value.int .i64) (Sort.ahead w n) blk off (zs.mergeSort fun x y => decide (x ≤ y)).toArray) os := Any.slices_Sort_int Tryd.lays189 blk off cap zs w hH hblk hsz
def Tryd.lays111_ren : Go.Shelf.Ren := ⟨fun | 111 => 28 | n => n, fun | 28 => 54 | 3 => 3 | 4 => 4 | 0 => 0 | n => n, fun | n => n⟩
theorem Tryd.lays111 : Go.Proofs.Lays.n111 Tryd.prog Tryd.lays111_ren := {
  mixed := by kernel_rfl
  f111 := Tryd.func28.trans (congrArg some (by kernel_rfl))
  t0 := Tryd.underlying0
  a0 := Tryd.isAgg0
  z0 := Tryd.sizeOf0
  v0 := Tryd.zeroValue0
  t3 := Tryd.underlying3
  a3 := Tryd.isAgg3
  z3 := Tryd.sizeOf3
  v3 := Tryd.zeroValue3
  t4 := Tryd.underlying4
  a4 := Tryd.isAgg4
  z4 := Tryd.sizeOf4
  v4 := Tryd.zeroValue4
  t28 := Tryd.underlying54
  a28 := Tryd.isAgg54
  z28 := Tryd.sizeOf54
  v28 := Tryd.zeroValue54 }
open Go.RowKit Go.Lib in
theorem Tryd.slices_Equal_int (b1 o1 n c b2 o2 m d : Nat) (xs ys : List Int) (w : World) (hx : n ≤ xs.length) (hy : m ≤ ys.length) (hbig : n ≤ 9223372036854775807) (hbig2 : m ≤ 9223372036854775807) (hc1 : ∀ j, j < xs.length → w.cell? ⟨b1, o1 + j, none⟩ = some (.int .i64 (xs.getD j 0))) (hc2 : ∀ j, j < ys.length → w.cell? ⟨b2, o2 + j, none⟩ = some (.int .i64 (ys.getD j 0))) :
    Calls Tryd.prog 28 #[.slice (some ⟨b1, o1, none⟩) n c, .slice (some ⟨b2, o2, none⟩) m d] w fun e w' => e = .returned (.bool (xs.take n == ys.take m)) ∧ ∃ q, w' = w.drewN q := Any.slices_Equal_int Tryd.lays111 b1 o1 n c b2 o2 m d xs ys w hx hy hbig hbig2 hc1 hc2
open Go.RowKit Go.Lib in
theorem Tryd.slices_Equal_int_empty (a1 a2 : Option Addr) (c m d : Nat) (w : World) (hbig2 : m ≤ 9223372036854775807) :
    Calls Tryd.prog 28 #[.slice a1 0 c, .slice a2 m d] w fun e w' => e = .returned (.bool (decide (m = 0))) ∧ w' = w := Any.slices_Equal_int_empty Tryd.lays111 a1 a2 c m d w hbig2
end Go.Proofs
/-
  The elements of the chapter's small group: group.Elements.
-/
namespace Go.Proofs.YtogbdnecpdcmiabDoor
open Go Go.RowKit
/-- integers as cells -/
abbrev I64 (l : List Int) : Array Value := (l.map (Value.int .i64)).toArray
theorem Blk.setI {w : World} {g : Nat} {t : TypeId} {l : List Int} (h : Blk w g t (I64 l)) (i : Nat) (v : Int) : Blk (w.setCell ⟨g, i, none⟩ (.int .i64 v)) g t (I64 (l.set i v)) := by
  unfold Blk
  rw [heap_setCell_same w g i _ t _ h]
  congr 2
  simp [I64, List.map_set]
theorem Blk.int {w : World} {g : Nat} {t : TypeId} {l : List Int} (h : Blk w g t (I64 l)) {i : Nat} (hi : i < l.length) : w.cell? ⟨g, i, none⟩ = some (.int .i64 (l.getD i 0)) := by
  rw [h.cell i]
  simp [I64, List.getD_eq_getElem?_getD, List.getElem?_eq_getElem hi]
theorem g23 : GSpec 23 11 4 := ⟨by decide, by decide, by decide, by decide, by decide, by decide, by decide, isB_base (i := 8) (by decide) rfl, isB_base (i := 4) (by decide) rfl, by decide⟩
/-- the powers, as far as i -/
def elTo : Nat → List Int
  | 0 => List.replicate 11 0
  | i + 1 => (elTo i).set i ((4 ^ i % 23 : Nat) : Int)
theorem elTo_len : ∀ i, (elTo i).length = 11
  | 0 => rfl
  | i + 1 => by rw [elTo, List.length_set, elTo_len i]
def elL : List Int := [1, 2, 3, 4, 6, 8, 9, 12, 13, 16, 18]
theorem elTo_all : elTo 11 = [1, 4, 16, 18, 3, 12, 2, 8, 9, 13, 6] := by decide
theorem elSort : ([1, 4, 16, 18, 3, 12, 2, 8, 9, 13, 6] : List Int).mergeSort (fun x y => decide (x ≤ y)) = elL := by
  simp [List.mergeSort, List.MergeSort.Internal.splitInTwo, elL]
/-- what the call does: a new slice of the elements -/
def ElRet (w : World) (e : Ending) (w' : World) : Prop := ∃ B, w.heap.size ≤ B ∧ B < w'.heap.size ∧ e = .returned (.tuple #[.slice (some ⟨B, 0, none⟩) 11 11, .int .i64 0]) ∧ (∀ j, j < 11 → w'.cell? ⟨B, j, none⟩ = some (.int .i64 (elL.getD j 0))) ∧ Below w.heap.size w w'
set_option maxRecDepth 100000 in
set_option maxHeartbeats 1000000 in
theorem elements_small (w : World) (hT : Tabs w) : Calls Tryd.prog 24 #[gV 23 11 4] w (ElRet w) := by
  have hmk : ∀ w, (Instr.makeSlice 54 (.int .i64 11) (.int .i64 11)).run Tryd.prog w = .ok (.slice (some ⟨w.heap.size, 0, none⟩) 11 11) (w.alloc (.cells (I64 (List.replicate 11 0)) 3)) := fun _ => by kernel_rfl
  have hgv : gvalB 23 11 4 = true := gvalB_true.2 g23
  obtain ⟨W2, hW2, hB1, l1, hb⟩ := one_box w #[.int .i64 23, .int .i64 11, .int .i64 4] 24
  have hT2 : Tabs W2 := by rw [hW2]; exact hT.alloc _
  have HT := Lib.hid hT2; have HB1 := Lib.hid hB1; have HG := Lib.hid hgv
  clear hT hT2 hgv
  go_enter Tryd.func24, Tryd.ntmps24
  go_upto_region 1 with (fail)
  rw [← hW2]
  obtain ⟨B1, hB1'⟩ : ∃ B, B = w.heap.size := ⟨_, rfl⟩
  rw [← hB1'] at hB1 HB1 l1 ⊢
  have HE1 := Lib.hid hB1'
  have hk : Below W2.heap.size W2 W2 := Below.refl _ _
  have c1 := hB1
  have hT := HT.out
  clear hW2 hB1' hB1
  go_upto_region 6 with (first
      | (go_at_call 9; refine (gvalid_any _ _ _ _ (by decide) (by decide) (by decide) (by decide) (by assumption)).mono ?_; rintro e w' ⟨rfl, hw⟩; rw [HG.out]; have hk := below_next hk hw; have c1 := box_keep HB1.out l1 hk; have hT := HT.out.below hk; clear hw))
  obtain ⟨W3, hW3⟩ : ∃ W3, W3 = w'.alloc (.cells (I64 [0, 0, 0, 0, 0, 0, 0, 0, 0, 0, 0]) 3) := ⟨_, rfl⟩
  have hO : Blk W3 w'.heap.size 3 (I64 (elTo 0)) := by rw [hW3]; exact heap_alloc_new _ _
  have hk3 : Below W2.heap.size W2 W3 := by rw [hW3]; exact hk.alloc hk.size _
  have hBl : W2.heap.size ≤ w'.heap.size := hk.size
  rw [← hW3]
  obtain ⟨B3, hB3⟩ : ∃ B3, B3 = w'.heap.size := ⟨_, rfl⟩
  rw [← hB3] at hO hBl ⊢
  have HO := Lib.hid hO
  clear hO hB3 hW3 c1 hT hk
  go_upto_region 7 with (fail)
  go_loopw [5, 6, 20] (fun vx _ vi wr => ∃ i : Nat, vx = .int .i64 (4 ^ i % 23 : Nat) ∧ vi = .int .i64 i ∧ i ≤ 11 ∧ Blk wr B3 3 (I64 (elTo i)) ∧ Below W2.heap.size W2 wr) (fun _ _ vi _ => 11 - (intOf vi).toNat)
  case atStart => exact ⟨0, rfl, rfl, by omega, HO.out, hk3⟩
  case round =>
    obtain ⟨i, rfl, rfl, hi, hbl, hk⟩ := hrel
    have HBL := Lib.hid hbl
    clear hbl
    by_cases hlt : i < 11
    · have hcell := HBL.out.int (i := i) (by rw [elTo_len]; exact hlt)
      have hfr := HBL.out.frozen i
      obtain ⟨y, hy⟩ : ∃ y, y = (elTo i).getD i 0 := ⟨_, rfl⟩
      rw [← hy] at hcell
      obtain ⟨X, hX⟩ : ∃ X, X = 4 ^ i % 23 := ⟨_, rfl⟩
      have hXb : X < 23 := by rw [hX]; exact Nat.mod_lt _ (by decide)
      have hnx : X * 4 % 23 = 4 ^ (i + 1) % 23 := by rw [hX, Nat.mod_mul_mod, Nat.pow_succ]
      have hnext : elTo (i + 1) = (elTo i).set i (X : Int) := by rw [elTo, ← hX]
      rw [← hX]
      have HX := Lib.hid hX; have HNX := Lib.hid hnx; have HN := Lib.hid hnext; have HY := Lib.hid hy
      have t0 : decide ((i : Int) < 11) = true := by simp; omega
      have c1 := box_keep HB1.out l1 hk
      clear hX hnx hnext hy
      go_upto_region 10 with (fail)
      have hblS : Blk (wr.setCell ⟨B3, i, none⟩ (.int .i64 X)) B3 3 (I64 (elTo (i + 1))) := by rw [HN.out]; exact HBL.out.setI i _
      have hkS : Below W2.heap.size W2 (wr.setCell ⟨B3, i, none⟩ (.int .i64 X)) := hk.setCell hBl _
      obtain ⟨W4, hW4⟩ : ∃ W4, W4 = wr.setCell ⟨B3, i, none⟩ (.int .i64 X) := ⟨_, rfl⟩
      rw [← hW4] at hblS hkS ⊢
      have c1 := box_keep HB1.out l1 hkS
      have HBS := Lib.hid hblS
      clear hW4 hblS hk
      go_wp2_with (go_at_call 18; refine (wMul_z _ _ _ (by omega) (by omega) (by decide) (by decide) (by decide) _).mono ?_; rintro e w5 ⟨rfl, nq, rfl⟩; rw [Int.toNat_natCast, show (4 : Int).toNat = 4 from rfl, show (23 : Int).toNat = 23 from rfl, HNX.out])
      go_roundw
      case rel => exact ⟨i + 1, rfl, by go_num, by omega, HBS.out.drewN nq, below_dn hkS nq⟩
      case measure => simp [intOf]; omega
    · have h11 : i = 11 := by omega
      have t0 : decide ((i : Int) < 11) = false := by simp; omega
      rw [h11, elTo_all] at HBL
      have hH : Go.Sort.Holds (Value.int .i64) wr B3 0 ([1, 4, 16, 18, 3, 12, 2, 8, 9, 13, 6] : List Int).toArray := holds_of_blockI HBL.out rfl
      have hsort := Tryd.slices_Sort_int B3 0 11 [1, 4, 16, 18, 3, 12, 2, 8, 9, 13, 6] wr hH HBL.out.lt (by decide)
      rw [elSort] at hsort
      have HSORT := Lib.hid hsort
      clear hH hsort h11
      go_wp2_with (go_at_call 51; refine HSORT.out.mono ?_; rintro e ws ⟨rfl, nq, os, hws⟩; have HWS := Lib.hid hws; clear hws)
      have hs1 := heap_sortedI (n := nq) (os := os) elL.toArray HBL.out
      have hg1 : wr.grownBy (Go.Sort.grow (Go.Sort.putRow (Value.int .i64) (Go.Sort.ahead wr nq) B3 0 elL.toArray) os) (some B3) := grownBy_sortedI elL.toArray
      rw [← HWS.out] at hs1 hg1
      have hbs : Below W2.heap.size W2 ws := hk.trans ⟨hg1.os, hg1.tape, hg1.output, hg1.size, fun k hk5 => hg1.block k (Nat.lt_of_lt_of_le hk5 hk.size) (fun h5 => by injection h5; omega)⟩
      have HBS := Lib.hid hbs; have HS1 := Lib.hid hs1
      clear hg1 hbs hs1
      go_ret2
      refine ⟨B3, by rw [← HE1.out]; omega, ?_, rfl, fun j hj => ?_, below_next hb HBS.out⟩
      · have := HS1.out
        rcases Nat.lt_or_ge B3 ws.heap.size with h5 | h5
        · exact h5
        · rw [Array.getElem?_eq_none h5] at this; cases this
      · rw [cell_of_row _ B3 j _ _ _ HS1.out]
        have : j = 0 ∨ j = 1 ∨ j = 2 ∨ j = 3 ∨ j = 4 ∨ j = 5 ∨ j = 6 ∨ j = 7 ∨ j = 8 ∨ j = 9 ∨ j = 10 := by omega
        rcases this with rfl | rfl | rfl | rfl | rfl | rfl | rfl | rfl | rfl | rfl | rfl <;> rfl
end Go.Proofs.YtogbdnecpdcmiabDoor
/-
  The examples of the chapter on groups: the law's awake.
-/
namespace Go.Proofs.YtogbdnecpdcmiabDoor
open Go Go.RowKit
set_option maxRecDepth 100000 in
set_option maxHeartbeats 1000000 in
theorem small10_any (w : World) : Calls Tryd.prog 25 #[] w (Ret (gV 23 11 4) w) := by
  go_enter Tryd.func25, Tryd.ntmps25
  obtain ⟨W2, hW2, hBk⟩ : ∃ W2, W2 = w.alloc (.cells (g3 0 0 0) 24) ∧ Blk W2 w.heap.size 24 (g3 0 0 0) := ⟨_, rfl, heap_alloc_new _ _⟩
  have hb2 : Below w.heap.size w W2 := by rw [hW2]; exact below_alloc _ _
  have HBK := Lib.hid hBk; have HB2 := Lib.hid hb2
  unfold g3 at hW2
  clear hBk hb2
  go_upto_region 1 with (fail)
  rw [← hW2]
  obtain ⟨B2, hB2⟩ : ∃ B2, B2 = w.heap.size := ⟨_, rfl⟩
  rw [← hB2] at HBK ⊢
  have HE2 := Lib.hid hB2
  clear hW2 hB2
  go_wp2_with (refine wpList_store_row rfl _ _ _ rfl B2 (g3 23 11 4) rfl rfl _ _ HBK.out g3_size rfl (g3_cells _ _ _) ?_)
  refine bodyPost_ret (results_cell_row rfl _ _ B2 _ (g3 23 11 4) _ _ rfl (HBK.out.setRow _) Tryd.underlying24 rfl g3_size) rfl ?_
  exact ret_of rfl (below_setRow HB2.out (by rw [HE2.out]; exact Nat.le_refl _) _)
theorem inv18 : invN 23 18 = 9 := invN_eq (by decide) (by decide)
set_option maxRecDepth 100000 in
set_option maxHeartbeats 1000000 in
theorem ginv18 (w : World) (hT : Tabs w) : Calls Tryd.prog 27 #[gV 23 11 4, .int .i64 18] w (Ret (.tuple #[.int .i64 9, .int .i64 0]) w) := by
  have hb := below_next (below_alloc w (.cells #[.int .i64 23, .int .i64 11, .int .i64 4] 24)) (below_alloc _ (.cells #[.int .i64 18] 3))
  have hz : w.heap.size < ((w.alloc (.cells #[.int .i64 23, .int .i64 11, .int .i64 4] 24)).alloc (.cells #[.int .i64 18] 3)).heap.size := by simp; omega
  go_enter Tryd.func27, Tryd.ntmps27
  go_wp2_with (first
    | (go_at_call 45; refine (gcheck_any 23 11 4 [18] (w.heap.size + 1) _ g23 ((hT.alloc _).alloc _) (by simp) 1 rfl (by omega) (by intro x hx; simp at hx; rw [hx]; decide) (by intro j hj; obtain rfl : j = 0 := (by omega); simp)).mono ?_; rintro e w' ⟨rfl, hw⟩; have hb := below_next hb hw; obtain ⟨hc, hf⟩ := bcell hw; have hz := Nat.lt_of_lt_of_le hz hw.size; clear hw)
    | (go_at_call 16; refine (inverse_yes 18 23 (by decide) (by decide) (by decide) (by decide) _).mono ?_; rintro e w' ⟨rfl, n, rfl⟩; rw [inv18]))
  go_ret2
  exact ret_of rfl (below_next hb (below_drewN _ _))
theorem make7 {P Q G E : Int} (h : MakeR 7 P Q G E) : P = 29 ∧ Q = 7 ∧ G = 16 ∧ E = 0 := by
  have h29 : MakeR 7 29 7 16 0 := by
    refine Or.inr (Or.inr ⟨by decide, isB_base (i := 3) (by decide) rfl, 4, 2, by decide, by decide, isB_base (i := 9) (by decide) rfl, fun j h1 h2 => ?_, by decide, by decide, by decide, fun i h1 h2 => by omega, rfl, rfl, rfl, rfl⟩)
    have : j = 1 ∨ j = 2 ∨ j = 3 := by omega
    rcases this with rfl | rfl | rfl
    · exact isB_even rfl (by decide)
    · exact isB_div (i := 1) (by decide) rfl (by decide)
    · exact isB_even rfl (by decide)
  exact h.unique h29
set_option maxRecDepth 100000 in
set_option maxHeartbeats 1000000 in
theorem awake10_any (w : World) (hT : Tabs w) : Calls Tryd.prog 6 #[] w (Ret (.bool true) w) := by
  have hk : Below w.heap.size w w := Below.refl _ _
  have HT := Lib.hid hT
  go_enter Tryd.func6, Tryd.ntmps6
  go_upto_region 5 with (first
    | (go_at_call 25; refine (small10_any _).mono ?_; rintro e w' ⟨rfl, hw⟩; have hk := below_next hk hw; have hT := HT.out.below hk; (try have hkE := below_next hkE hw); clear hw)
    | (go_at_call 24; refine (elements_small _ (by assumption)).mono ?_; rintro e wE ⟨BE, hBE, hBL, rfl, hcE, hw⟩; have hkE := Below.refl wE.heap.size wE; have HCE := Lib.hid hcE; have hk := below_next hk hw; have hT := HT.out.below hk; clear hw hcE)
    | (go_at_call 26; refine (gpower_any 23 11 4 4 3 _ g23 (by assumption) (by decide)).mono ?_; rintro e w' ⟨rfl, hw⟩; have hk := below_next hk hw; have hT := HT.out.below hk; (try have hkE := below_next hkE hw); clear hw)
    | (go_at_call 27; refine (ginv18 _ (by assumption)).mono ?_; rintro e w' ⟨rfl, hw⟩; have hk := below_next hk hw; have hT := HT.out.below hk; (try have hkE := below_next hkE hw); clear hw)
    | (go_at_call 7; refine (gmake_any 7 _ (by decide) (by decide) (by assumption)).mono ?_; rintro e w' ⟨P, Q, G, E, hm, rfl, hw⟩; obtain ⟨rfl, rfl, rfl, rfl⟩ := make7 hm; have hk := below_next hk hw; have hT := HT.out.below hk; (try have hkE := below_next hkE hw); clear hw))
  obtain ⟨W7, hW7, hB7, l7, hb7⟩ := one_box w' #[.int .i64 29, .int .i64 7, .int .i64 16] 24
  rw [← hW7]
  have hk := below_next hk hb7
  have hkE := below_next hkE hb7
  obtain ⟨B7, hB7'⟩ : ∃ B, B = w'.heap.size := ⟨_, rfl⟩
  rw [← hB7'] at hB7 l7 ⊢
  have hq : (elL.take 11 == ([1, 2, 3, 4, 6, 8, 9, 12, 13, 16, 18] : List Int).take 11) = true := by decide
  have HQ := Lib.hid hq; have HB7 := Lib.hid hB7
  have hBW : ∀ j, j < elL.length → (W7.alloc (.cells #[.int .i64 1, .int .i64 2, .int .i64 3, .int .i64 4, .int .i64 6, .int .i64 8, .int .i64 9, .int .i64 12, .int .i64 13, .int .i64 16, .int .i64 18] 3)).cell? ⟨BE, 0 + j, none⟩ = some (.int .i64 (elL.getD j 0)) := fun j hj => by
    rw [Nat.zero_add, (below_next hkE (below_alloc _ _)).cell (p := ⟨BE, j, none⟩) hBL]
    exact HCE.out j hj
  have HBW := Lib.hid hBW
  clear hq hBW hW7 hB7' hT
  go_wp2_with (go_at_call 28; refine (Tryd.slices_Equal_int BE 0 11 11 W7.heap.size 0 11 11 elL [1, 2, 3, 4, 6, 8, 9, 12, 13, 16, 18] _ (by decide) (by decide) (by decide) (by decide) HBW.out (by intro j hj; have : j < 11 := hj; rw [Nat.zero_add, cell_of_row _ W7.heap.size j _ _ _ (heap_alloc_new _ _)]; have h5 : j = 0 ∨ j = 1 ∨ j = 2 ∨ j = 3 ∨ j = 4 ∨ j = 5 ∨ j = 6 ∨ j = 7 ∨ j = 8 ∨ j = 9 ∨ j = 10 := (by omega); rcases h5 with rfl | rfl | rfl | rfl | rfl | rfl | rfl | rfl | rfl | rfl | rfl <;> rfl)).mono ?_; rintro e w8 ⟨rfl, nq, rfl⟩; rw [HQ.out]; have c7 := box_keep HB7.out l7 (below_dn (below_alloc W7 (.cells #[.int .i64 1, .int .i64 2, .int .i64 3, .int .i64 4, .int .i64 6, .int .i64 8, .int .i64 9, .int .i64 12, .int .i64 13, .int .i64 16, .int .i64 18] 3)) nq))
  go_ret
  exact ret_of rfl (below_dn (below_next hk (below_alloc _ _)) nq)
end Go.Proofs.YtogbdnecpdcmiabDoor
