/-
  Inverses modulo a number, and products of powers.
-/
import Derived.Test.YtogbdnecpdcmiaaDoorJ3
import Derived.Test.YtogbdnecpdcmiaaDoorMrA
import Derived.Test.YtogbdnecpdcmiaaDoorJ4
import Derived.Shelf.Abstract
/-
  The inverse modulo a number: plain mathematics.
-/
namespace Go.Proofs.YtogbdnecpdcmiaaDoor
open Go Go.RowKit
/-- what Euclid's algorithm keeps -/
structure EInv (a0 m a d : Nat) (x n : Int) : Prop where
  ad : a < d
  dm : d ≤ m
  bd : x.natAbs * a + n.natAbs * d = m
  le : x.natAbs ≤ n.natAbs
  sg : (0 ≤ n ∧ x ≤ 0) ∨ (n ≤ 0 ∧ 0 ≤ x)
  cx : (m : Int) ∣ (a0 : Int) * x - (d : Int)
  cn : (m : Int) ∣ (a0 : Int) * n - (a : Int)
  gc : Nat.gcd a d = Nat.gcd a0 m
theorem EInv.start {a0 m : Nat} (h : a0 < m) : EInv a0 m a0 m 0 1 :=
  ⟨h, Nat.le_refl _, by simp, by simp, Or.inl ⟨by decide, by decide⟩, by simp, by simp, rfl⟩
theorem EInv.next {a0 m a d : Nat} {x n : Int} (h : EInv a0 m a d x n) (ha : 0 < a) : EInv a0 m (d % a) a n (x - ((d / a : Nat) : Int) * n) := by
  have hq : 1 ≤ d / a := (Nat.le_div_iff_mul_le ha).2 (by have := h.ad; omega)
  have hda := Nat.div_add_mod d a
  have key : (x - ((d / a : Nat) : Int) * n).natAbs = x.natAbs + (d / a) * n.natAbs := by
    have e1 : (((d / a : Nat) : Int) * n).natAbs = (d / a) * n.natAbs := by rw [Int.natAbs_mul]; rfl
    have e2 : 0 ≤ n → 0 ≤ ((d / a : Nat) : Int) * n := fun h => Int.mul_nonneg (by omega) h
    have e3 : n ≤ 0 → ((d / a : Nat) : Int) * n ≤ 0 := fun h => Int.mul_nonpos_of_nonneg_of_nonpos (by omega) h
    generalize ((d / a : Nat) : Int) * n = T at e1 e2 e3
    rcases h.sg with ⟨h1, h2⟩ | ⟨h1, h2⟩
    · have := e2 h1; omega
    · have := e3 h1; omega
  have kle : n.natAbs ≤ (d / a) * n.natAbs := Nat.le_mul_of_pos_left _ (by omega)
  refine ⟨Nat.mod_lt _ ha, by have := h.ad; have := h.dm; omega, ?_, by rw [key]; omega, ?_, h.cn, ?_, ?_⟩
  · rw [key, ← h.bd]
    conv => rhs; rw [← hda]
    rw [Nat.add_mul, Nat.mul_add, Nat.mul_comm (d / a) n.natAbs, Nat.mul_assoc, Nat.mul_comm (d / a) a]
    omega
  · have e2 : 0 ≤ n → 0 ≤ ((d / a : Nat) : Int) * n := fun h => Int.mul_nonneg (by omega) h
    have e3 : n ≤ 0 → ((d / a : Nat) : Int) * n ≤ 0 := fun h => Int.mul_nonpos_of_nonneg_of_nonpos (by omega) h
    generalize ((d / a : Nat) : Int) * n = T at e2 e3
    rcases h.sg with ⟨h1, h2⟩ | ⟨h1, h2⟩
    · have := e2 h1; right; omega
    · have := e3 h1; left; omega
  · have e : (a0 : Int) * (x - ((d / a : Nat) : Int) * n) - ((d % a : Nat) : Int) = ((a0 : Int) * x - (d : Int)) - ((d / a : Nat) : Int) * ((a0 : Int) * n - (a : Int)) := by
      have h1 : ((d : Nat) : Int) = (a : Int) * ((d / a : Nat) : Int) + ((d % a : Nat) : Int) := by
        rw [← Int.natCast_mul, ← Int.natCast_add, hda]
      rw [h1]; grind
    rw [e]
    exact Int.dvd_sub h.cx (Int.dvd_trans h.cn (Int.dvd_mul_left _ _))
  · rw [← h.gc, Nat.gcd_rec a d]
theorem EInv.bound {a0 m a d : Nat} {x n : Int} (h : EInv a0 m a d x n) : n.natAbs ≤ m ∧ x.natAbs ≤ m := by
  have h1 : n.natAbs * 1 ≤ n.natAbs * d := Nat.mul_le_mul_left _ (by have := h.ad; omega)
  have := h.bd; have := h.le
  omega
/-- what the algorithm ends with -/
structure EEnd (a m : Nat) (d x : Int) : Prop where
  dg : d = (Nat.gcd a m : Nat)
  x0 : 0 ≤ x
  xm : x < m
  cx : (m : Int) ∣ (a : Int) * x - d
theorem EInv.fin {a0 m d : Nat} {x n : Int} (h : EInv a0 m 0 d x n) (hm : 0 < m) : EEnd a0 m (d : Int) (x % (m : Int)) := by
  have h1 := h.gc
  rw [Nat.gcd_zero_left] at h1
  refine ⟨by rw [h1], Int.emod_nonneg _ (by omega), Int.emod_lt_of_pos _ (by omega), ?_⟩
  have h2 : (a0 : Int) * (x % (m : Int)) - (d : Int) = ((a0 : Int) * x - (d : Int)) - (m : Int) * ((a0 : Int) * (x / (m : Int))) := by
    have h3 := Int.emod_add_mul_ediv x (m : Int)
    conv => rhs; rw [← h3]
    rw [show x % (m : Int) + (m : Int) * (x / (m : Int)) = x from h3]
    generalize x % (m : Int) = R at *
    generalize x / (m : Int) = Q at *
    subst h3
    grind
  rw [h2]
  exact Int.dvd_sub h.cx (Int.dvd_mul_right _ _)
theorem EInv.fin2 {a0 m d : Nat} {x n : Int} (h : EInv a0 m 0 d x n) (hm : 0 < m) : EEnd a0 m (d : Int) ((x + (m : Int)) % (m : Int)) := by
  rw [Int.add_emod_right]
  exact h.fin hm
theorem wrapI {n : Int} (h : -9223372036854775808 ≤ n) (k : n < 9223372036854775808) : IntKind.i64.wrap n = n := by rw [IntKind.wrap_i64]; omega
theorem wrapJ {n : Int} (h : -9223372036854775808 ≤ n) (k : n < 9223372036854775808) : wrap64 n = n := by unfold wrap64; omega
/-- the inverse of a number -/
noncomputable def invN (m a : Nat) : Nat := Classical.epsilon (fun x => x < m ∧ a * x % m = 1)
theorem inv_unique {m a x y : Nat} (hx : x < m) (hy : y < m) (hax : a * x % m = 1) (hay : a * y % m = 1) : x = y := by
  have h1 : x * (a * y) % m = x := by rw [Nat.mul_mod, hay, Nat.mul_one, Nat.mod_mod, Nat.mod_eq_of_lt hx]
  have h2 : x * (a * y) % m = y := by rw [← Nat.mul_assoc, Nat.mul_comm x a, Nat.mul_mod, hax, Nat.one_mul, Nat.mod_mod, Nat.mod_eq_of_lt hy]
  exact h1.symm.trans h2
theorem invN_eq {m a x : Nat} (hx : x < m) (hax : a * x % m = 1) : invN m a = x := by
  have h := Classical.epsilon_spec (p := fun x => x < m ∧ a * x % m = 1) ⟨x, hx, hax⟩
  exact inv_unique h.1 hx h.2 hax
theorem EEnd.mul {a m : Nat} {d x : Int} (h : EEnd a m d x) (h1 : 1 < m) (hg : Nat.gcd a m = 1) : ∃ X : Nat, x = X ∧ a * X % m = 1 := by
  have hd := h.dg
  rw [hg] at hd
  obtain ⟨X, rfl⟩ : ∃ X : Nat, x = X := ⟨x.toNat, by have := h.x0; omega⟩
  have hc := h.cx
  rw [hd] at hc
  refine ⟨X, rfl, ?_⟩
  have h3 : Mr.C m ((a * X : Nat) : Int) ((1 : Nat) : Int) := by unfold Mr.C; rw [Int.natCast_mul]; exact hc
  have h4 := Mr.C.nat_iff.1 h3
  rwa [Nat.mod_eq_of_lt h1] at h4
theorem EEnd.inv {a m : Nat} {d x : Int} (h : EEnd a m d x) (h1 : 1 < m) (hg : Nat.gcd a m = 1) : d = 1 ∧ x = (invN m a : Nat) := by
  obtain ⟨X, rfl, hX⟩ := h.mul h1 hg
  have hx := h.xm
  exact ⟨by rw [h.dg, hg]; rfl, by rw [invN_eq (by omega) hX]⟩
theorem EInv.run {a0 m : Nat} (hm : 0 < m) (a : Nat) : ∀ {d : Nat} {x n : Int}, EInv a0 m a d x n → ∃ d x : Int, EEnd a0 m d x := by
  induction a using Nat.strongRecOn with
  | _ a ih =>
    intro d x n h
    rcases Nat.eq_zero_or_pos a with rfl | h0
    · exact ⟨_, _, h.fin hm⟩
    · exact ih (d % a) (Nat.mod_lt _ h0) (h.next h0)
theorem invN_spec {m a : Nat} (ha : a < m) (h1 : 1 < m) (hg : Nat.gcd a m = 1) : invN m a < m ∧ a * invN m a % m = 1 := by
  obtain ⟨d, x, h⟩ := EInv.run (by omega) a (EInv.start ha)
  obtain ⟨X, hX, hXm⟩ := h.mul h1 hg
  have := invN_eq (x := X) (m := m) (a := a) (by have := h.xm; omega) hXm
  rw [this]
  exact ⟨by have := h.xm; omega, hXm⟩
theorem gcd_pm {q a : Nat} (hq : Mr.Pm q) (h0 : 0 < a) (h1 : a < q) : Nat.gcd a q = 1 := by
  rcases hq.2 _ (Nat.gcd_dvd_right a q) with h | h
  · exact h
  · exfalso
    have := Nat.le_of_dvd h0 (h ▸ Nat.gcd_dvd_left a q)
    omega
end Go.Proofs.YtogbdnecpdcmiaaDoor
/-
  The inverse modulo a number: word.euclid and word.Inverse.
-/
namespace Go.Proofs.YtogbdnecpdcmiaaDoor
open Go Go.RowKit
/-- a round's numbers -/
theorem euclid_step {a m b d : Nat} {x n : Int} (h : EInv a m b d x n) (hb : 0 < b) (hm : m < 2305843009213693952) : ∃ (Q R : Nat) (N2 : Int) (QB : Nat) (T : Int), EInv a m R b n N2 ∧ R < b ∧ Q < 2305843009213693952 ∧ (d : Int) / (b : Int) = (Q : Int) ∧
    (-9223372036854775808 ≤ (Q : Int) * (b : Int) ∧ (Q : Int) * (b : Int) < 9223372036854775808 ∧ (Q : Int) * (b : Int) = (QB : Int)) ∧
    (-9223372036854775808 ≤ (d : Int) - (QB : Int) ∧ (d : Int) - (QB : Int) < 9223372036854775808 ∧ (d : Int) - (QB : Int) = (R : Int)) ∧
    (-9223372036854775808 ≤ (Q : Int) * n ∧ (Q : Int) * n < 9223372036854775808 ∧ (Q : Int) * n = T) ∧
    (-9223372036854775808 ≤ x - T ∧ x - T < 9223372036854775808 ∧ x - T = N2) := by
  have hN := h.next hb
  have k1 := h.bound
  have k2 := hN.bound
  have had := h.ad; have hdm := h.dm
  have hda := Nat.div_add_mod d b
  have hR := Nat.mod_lt d hb
  have e1 : ((d / b : Nat) : Int) * (b : Int) = ((b * (d / b) : Nat) : Int) := by rw [Int.natCast_mul, Int.mul_comm]
  refine ⟨d / b, d % b, x - ((d / b : Nat) : Int) * n, b * (d / b), ((d / b : Nat) : Int) * n, hN, hR, Nat.lt_of_le_of_lt (Nat.div_le_self d b) (by omega), (Int.natCast_ediv _ _).symm, ?_, ?_, ?_, ?_⟩
  · rw [e1]
    generalize b * (d / b) = QB at *
    exact ⟨by omega, by omega, rfl⟩
  · generalize b * (d / b) = QB at *
    generalize d % b = R at *
    exact ⟨by omega, by omega, by omega⟩
  · generalize ((d / b : Nat) : Int) * n = T at *
    exact ⟨by omega, by omega, rfl⟩
  · generalize ((d / b : Nat) : Int) * n = T at *
    exact ⟨by omega, by omega, rfl⟩
/-- the call returns what Euclid's algorithm ends with -/
def EuRet (a m : Nat) (w : World) (e : Ending) (w' : World) : Prop := ∃ d x : Int, EEnd a m d x ∧ RetQ (.tuple #[.int .i64 d, .int .i64 x]) w e w'
theorem euRet_of {a m : Nat} {d x : Int} {w w' : World} (h : EEnd a m d x) (k : Drew w w') : EuRet a m w (.returned (.tuple #[.int .i64 d, .int .i64 x])) w' := ⟨d, x, h, retq_of rfl k⟩
set_option maxRecDepth 100000 in
set_option maxHeartbeats 400000 in
theorem euclid_any (a m : Nat) (ha : a < m) (hm : m < 2305843009213693952) (w : World) :
    Calls Tryd.prog 79 #[.int .i64 a, .int .i64 m] w (EuRet a m w) := by
  go_enter Tryd.func79, Tryd.ntmps79
  go_wp2
  go_loop [0, 4, 5, 6] (fun va vd vx vn => ∃ (b d : Nat) (x n : Int), va = .int .i64 b ∧ vd = .int .i64 d ∧ vx = .int .i64 x ∧ vn = .int .i64 n ∧ EInv a m b d x n) (fun va _ _ _ => (intOf va).toNat)
  case atStart => exact ⟨a, m, 0, 1, rfl, rfl, rfl, rfl, EInv.start ha⟩
  case round =>
    obtain ⟨b, d, x, n, rfl, rfl, rfl, rfl, hI⟩ := hrel
    obtain ⟨bn, bx⟩ := hI.bound
    have had := hI.ad; have hdm := hI.dm
    have HI := Lib.hid hI
    clear hI
    by_cases h0 : b = 0
    · subst h0
      have t1 : (((0 : Nat) : Int) != 0) = false := rfl
      have hm0 : ¬ (m : Int) = 0 := by omega
      by_cases hx : x < 0
      · have t2 : decide (x < 0) = true := by simp; omega
        have g0 : 0 ≤ x + (m : Int) := by omega
        have hF := Lib.hid (HI.out.fin (by omega))
        have et : Int.tmod (x + (m : Int)) (m : Int) = (x + (m : Int)) % (m : Int) := Int.tmod_eq_emod_of_nonneg g0
        go_wp2
        go_quiet (fail)
        go_wp2
        go_ret2
        exact euRet_of hF.out ⟨_, rfl⟩
      · have t2 : decide (x < 0) = false := by simp; omega
        have g0 : 0 ≤ x := by omega
        have hF := Lib.hid (HI.out.fin (by omega))
        have et : Int.tmod x (m : Int) = x % (m : Int) := Int.tmod_eq_emod_of_nonneg g0
        go_wp2
        go_quiet (fail)
        go_wp2
        go_ret2
        exact euRet_of hF.out ⟨_, rfl⟩
    · have t1 : ((b : Int) != 0) = true := by simp; omega
      have hb0 : ¬ (b : Int) = 0 := by omega
      obtain ⟨Q, R, N2, QB, T, hN, hRb, hQ, e0, g1, g2, g3, g4⟩ := euclid_step HI.out (by omega) hm
      have e1 := (wrapJ g1.1 g1.2.1).trans g1.2.2
      have f1 := (wrapI g1.1 g1.2.1).trans g1.2.2
      have e2 := (wrapJ g2.1 g2.2.1).trans g2.2.2
      have f2 := (wrapI g2.1 g2.2.1).trans g2.2.2
      have e3 := (wrapJ g3.1 g3.2.1).trans g3.2.2
      have f3 := (wrapI g3.1 g3.2.1).trans g3.2.2
      have e4 := (wrapJ g4.1 g4.2.1).trans g4.2.2
      have f4 := (wrapI g4.1 g4.2.1).trans g4.2.2
      have HN := Lib.hid hN
      clear hN g1 g2 g3 g4 had hdm bn bx hm
      go_wp2
      go_round
      case rel => exact ⟨R, b, n, N2, rfl, rfl, rfl, rfl, HN.out⟩
      case measure => simp [intOf]; omega
set_option maxRecDepth 100000 in
set_option maxHeartbeats 1000000 in
theorem inverse_yes (a m : Nat) (ha : a < m) (h1 : 1 < m) (hm : m < 2305843009213693952) (hg : Nat.gcd a m = 1) (w : World) :
    Calls Tryd.prog 32 #[.int .i64 a, .int .i64 m] w (RetQ (.tuple #[.int .i64 (invN m a : Nat), .int .i64 0]) w) := by
  have HG := Lib.hid hg
  clear hg
  go_enter Tryd.func32, Tryd.ntmps32
  go_wp2_with (first
    | (go_at_call 78; refine (check_ok _ _ _ ha ha hm _).mono ?_; rintro e w' ⟨rfl, rfl⟩)
    | (go_at_call 79; refine (euclid_any _ _ ha hm _).mono ?_; rintro e w' ⟨d, x, hE, rfl, n, rfl⟩; obtain ⟨rfl, rfl⟩ := hE.inv h1 HG.out; clear hE))
  go_ret2
  exact retq_of rfl ⟨_, rfl⟩
set_option maxRecDepth 100000 in
set_option maxHeartbeats 1000000 in
theorem inverse_no (a m : Nat) (ha : a < m) (hm : m < 2305843009213693952) (hg : Nat.gcd a m ≠ 1) (w : World) :
    Calls Tryd.prog 32 #[.int .i64 a, .int .i64 m] w (RetQ (.tuple #[.int .i64 0, .int .i64 10]) w) := by
  have HG := Lib.hid hg
  clear hg
  go_enter Tryd.func32, Tryd.ntmps32
  go_wp2_with (first
    | (go_at_call 78; refine (check_ok _ _ _ ha ha hm _).mono ?_; rintro e w' ⟨rfl, rfl⟩)
    | (go_at_call 79; refine (euclid_any _ _ ha hm _).mono ?_; rintro e w' ⟨d, x, hE, rfl, n, rfl⟩; have hd : (d == 1) = false := (by have := hE.dg; have := HG.out; simp; omega); have hd2 : (d != 1) = true := (by have := hE.dg; have := HG.out; simp; omega); clear hE))
  go_ret2
  exact retq_of rfl ⟨_, rfl⟩
end Go.Proofs.YtogbdnecpdcmiaaDoor
/-
  Commitments: plain mathematics.
-/
namespace Go.Proofs.YtogbdnecpdcmiaaDoor
open Go
/-- g^m h^r -/
def commN (p g h m r : Nat) : Nat := (g ^ m % p) * (h ^ r % p) % p
theorem C_pow (p a k : Nat) : Mr.C p ((a ^ k % p : Nat) : Int) ((a : Int) ^ k) := by
  rw [← Int.natCast_pow]; exact Mr.C.nmod p (a ^ k)
theorem C_comm (p g h m r : Nat) : Mr.C p (commN p g h m r : Int) ((g : Int) ^ m * (h : Int) ^ r) := by
  unfold commN
  refine (Mr.C.nmod p _).trans ?_
  rw [Int.natCast_mul]
  exact (C_pow p g m).mul (C_pow p h r)
theorem eq_of_C {p a b : Nat} (ha : a < p) (hb : b < p) (h : Mr.C p (a : Int) (b : Int)) : a = b := by
  have := Mr.C.nat_iff.1 h
  rwa [Nat.mod_eq_of_lt ha, Nat.mod_eq_of_lt hb] at this
theorem C_one {p a : Nat} (h2 : 2 ≤ p) (h : a % p = 1) : Mr.C p (a : Int) 1 := by
  rw [show (1 : Int) = ((1 : Nat) : Int) from rfl]
  exact Mr.C.nat_iff.2 (by rw [h, Nat.mod_eq_of_lt (by omega)])
theorem one_of_C {p a : Nat} (h2 : 2 ≤ p) (h : Mr.C p (a : Int) 1) : a % p = 1 := by
  rw [show (1 : Int) = ((1 : Nat) : Int) from rfl] at h
  have := Mr.C.nat_iff.1 h
  rwa [Nat.mod_eq_of_lt (show 1 < p by omega)] at this
theorem gq_one {p q g : Nat} (h2 : 2 ≤ p) (hq : 0 < q) (hg : g ^ q % p = 1) (m : Nat) : Mr.C p ((g : Int) ^ m * (g : Int) ^ (m * (q - 1))) 1 := by
  rw [← Int.pow_add, ← Int.natCast_pow]
  refine C_one h2 ?_
  rw [show m + m * (q - 1) = q * m by
    obtain ⟨k, rfl⟩ : ∃ k, q = k + 1 := ⟨q - 1, by omega⟩
    rw [Nat.add_sub_cancel, Nat.add_mul, Nat.one_mul, Nat.mul_comm k m, Nat.add_comm]]
  exact pow_one_mod h2 hg m
/-- a commitment to m with exactly one factor -/
theorem hides {p q g h c : Nat} (hp : Mr.Pm p) (hg : g ^ q % p = 1) (hC : Cyc p q h) (hc : c ^ q % p = 1) (hcp : c < p) (m : Nat) : ∃ r0, r0 < q ∧ ∀ r, r < q → (commN p g h m r = c ↔ r = r0) := by
  have h2 := hp.1
  have hq := hC.q0
  have hone := gq_one h2 hq hg m
  obtain ⟨y, hy⟩ : ∃ y, y = c * g ^ (m * (q - 1)) % p := ⟨_, rfl⟩
  have hyC : Mr.C p (y : Int) ((c : Int) * (g : Int) ^ (m * (q - 1))) := by
    rw [hy]
    refine (Mr.C.nmod p _).trans ?_
    rw [Int.natCast_mul, Int.natCast_pow]
    exact Mr.C.rfl' _ _
  have hyq : y ^ q % p = 1 := by
    refine one_of_C h2 ?_
    rw [Int.natCast_pow]
    refine (hyC.pow q).trans ?_
    rw [Int.mul_pow, ← Int.pow_mul, Nat.mul_comm _ q, Int.pow_mul]
    have a1 : Mr.C p ((c : Int) ^ q) 1 := by rw [← Int.natCast_pow]; exact C_one h2 hc
    have a2 : Mr.C p (((g : Int) ^ q) ^ (m * (q - 1))) 1 := by
      have a3 : Mr.C p ((g : Int) ^ q) 1 := by rw [← Int.natCast_pow]; exact C_one h2 hg
      have := a3.pow (m * (q - 1))
      rwa [Int.one_pow] at this
    have := a1.mul a2
    rwa [Int.one_mul] at this
  have hyp : y < p := by rw [hy]; exact Nat.mod_lt _ (by omega)
  obtain ⟨r0, hL⟩ := log_of hp hC hyq hyp
  refine ⟨r0, hL.lt, fun r hr => ⟨fun e => ?_, fun e => ?_⟩⟩
  · refine LogN.unique hC ⟨hr, ?_⟩ hL
    refine eq_of_C (Nat.mod_lt _ (by omega)) hyp ?_
    have k1 := C_comm p g h m r
    rw [e] at k1
    have k2 := hyC.trans (k1.mul (Mr.C.rfl' p ((g : Int) ^ (m * (q - 1)))))
    have k3 := hone.mul (Mr.C.rfl' p ((h : Int) ^ r))
    rw [Int.one_mul] at k3
    refine (C_pow p h r).trans (k3.symm.trans ?_)
    rw [show (g : Int) ^ m * (g : Int) ^ (m * (q - 1)) * (h : Int) ^ r = (g : Int) ^ m * (h : Int) ^ r * (g : Int) ^ (m * (q - 1)) by rw [Int.mul_right_comm]]
    exact k2.symm
  · subst e
    refine eq_of_C (by unfold commN; exact Nat.mod_lt _ (by omega)) hcp ?_
    have k1 : Mr.C p ((h : Int) ^ r) (y : Int) := by
      have := C_pow p h r
      rw [hL.eq] at this
      exact this.symm
    have k2 := (C_comm p g h m r).trans ((Mr.C.rfl' p ((g : Int) ^ m)).mul (k1.trans hyC))
    have k3 := hone.mul (Mr.C.rfl' p (c : Int))
    rw [Int.one_mul] at k3
    refine k2.trans ?_
    rw [show (g : Int) ^ m * ((c : Int) * (g : Int) ^ (m * (q - 1))) = (g : Int) ^ m * (g : Int) ^ (m * (q - 1)) * (c : Int) by rw [Int.mul_comm (c : Int), Int.mul_assoc]]
    exact k3
/-- r + (m - n) / log -/
noncomputable def otherN (q : Nat) (m r n : Int) (log : Nat) : Int := (r + (m - n) % (q : Int) * (invN q log : Int)) % (q : Int)
theorem C_q {q : Nat} (a : Int) : Mr.C q (a % (q : Int)) a := Mr.C.mod q a
theorem inv_C {q a : Nat} (h1 : 1 < q) (ha : a < q) (hg : Nat.gcd a q = 1) : Mr.C q ((a : Int) * (invN q a : Int)) 1 := by
  rw [← Int.natCast_mul]
  exact C_one (by omega) (invN_spec ha h1 hg).2
theorem other_C {q : Nat} {m r n : Int} {log : Nat} (h1 : 1 < q) (hl : log < q) (hg : Nat.gcd log q = 1) : Mr.C q ((log : Int) * otherN q m r n log) ((log : Int) * r + (m - n)) := by
  unfold otherN
  have k := inv_C h1 hl hg
  refine ((Mr.C.rfl' q (log : Int)).mul ((C_q _).trans ((Mr.C.rfl' q r).add ((C_q (m - n)).mul (Mr.C.rfl' q (invN q log : Int)))))).trans ?_
  rw [show (log : Int) * (r + (m - n) * (invN q log : Int)) = (log : Int) * r + (m - n) * ((log : Int) * (invN q log : Int)) by grind]
  have k2 := (Mr.C.rfl' q ((log : Int) * r)).add ((Mr.C.rfl' q (m - n)).mul k)
  rwa [Int.mul_one] at k2
theorem other_range {q : Nat} (h1 : 1 < q) (m r n : Int) (log : Nat) : 0 ≤ otherN q m r n log ∧ otherN q m r n log < q := by
  unfold otherN
  exact ⟨Int.emod_nonneg _ (by omega), Int.emod_lt_of_pos _ (by omega)⟩
theorem C_small {q : Nat} {a b : Int} (a0 : 0 ≤ a) (aq : a < q) (b0 : 0 ≤ b) (bq : b < q) (h : Mr.C q a b) : a = b := by
  have := Mr.C.iff_mod.1 h
  rwa [Int.emod_eq_of_lt a0 aq, Int.emod_eq_of_lt b0 bq] at this
theorem other_eq {q : Nat} {m r n : Int} {log : Nat} (h1 : 1 < q) (hl : log < q) (hg : Nat.gcd log q = 1) (m0 : 0 ≤ m) (mq : m < q) (r0 : 0 ≤ r) (rq : r < q) (n0 : 0 ≤ n) (nq : n < q) :
    otherN q m r n log = r ↔ m = n := by
  constructor
  · intro e
    have k := other_C (m := m) (r := r) (n := n) h1 hl hg
    rw [e] at k
    have k2 := k.sub (Mr.C.rfl' q ((log : Int) * r))
    rw [Int.sub_self, show (log : Int) * r + (m - n) - (log : Int) * r = m - n by omega] at k2
    have k3 := k2.add (Mr.C.rfl' q n)
    rw [Int.zero_add, Int.sub_add_cancel] at k3
    exact (C_small n0 nq m0 mq k3).symm
  · rintro rfl
    unfold otherN
    rw [Int.sub_self, Int.zero_emod, Int.zero_mul, Int.add_zero, Int.emod_eq_of_lt r0 rq]
/-- the other opening is one -/
theorem other_opens {p q g h : Nat} {m r n log s : Nat} (h2 : 2 ≤ p) (hg : g ^ q % p = 1) (hh : h = g ^ log % p) (hs : Mr.C q ((log : Int) * (s : Int)) ((log : Int) * (r : Int) + ((m : Int) - (n : Int)))) :
    commN p g h n s = commN p g h m r := by
  have key : ∀ a b : Nat, Mr.C p (commN p g h a b : Int) ((g ^ (a + log * b) : Nat) : Int) := by
    intro a b
    refine (C_comm p g h a b).trans ?_
    have k1 : Mr.C p (h : Int) ((g : Int) ^ log) := by rw [hh]; exact C_pow p g log
    have k2 := (Mr.C.rfl' p ((g : Int) ^ a)).mul (k1.pow b)
    rw [← Int.pow_mul, ← Int.pow_add, ← Int.natCast_pow] at k2
    exact k2
  have e : (n + log * s) % q = (m + log * r) % q := by
    refine Mr.C.nat_iff.1 ?_
    rw [Int.natCast_add, Int.natCast_add, Int.natCast_mul, Int.natCast_mul]
    have := (Mr.C.rfl' q (n : Int)).add hs
    rwa [show (n : Int) + ((log : Int) * (r : Int) + ((m : Int) - (n : Int))) = (m : Int) + (log : Int) * (r : Int) by omega] at this
  refine eq_of_C (by unfold commN; exact Nat.mod_lt _ (by omega)) (by unfold commN; exact Nat.mod_lt _ (by omega)) ?_
  refine (key n s).trans (Mr.C.trans ?_ (key m r).symm)
  refine Mr.C.nat_iff.2 ?_
  rw [pow_red h2 hg (n + log * s), pow_red h2 hg (m + log * r), e]
/-- two openings yield the logarithm -/
theorem binds {q : Nat} {m r n s : Int} {log d : Nat} (h1 : 1 < q) (hl : log < q) (hs : Mr.C q ((log : Int) * s) ((log : Int) * r + (m - n))) (hd : (d : Int) = (s - r) % (q : Int)) (hgd : Nat.gcd d q = 1) :
    (m - n) % (q : Int) * (invN q d : Int) % (q : Int) = (log : Int) := by
  have hdq : d < q := by have := Int.emod_lt_of_pos (s - r) (show (0 : Int) < q by omega); omega
  have k := inv_C h1 hdq hgd
  have k1 : Mr.C q ((log : Int) * (d : Int)) (m - n) := by
    rw [hd]
    refine ((Mr.C.rfl' q (log : Int)).mul (C_q (s - r))).trans ?_
    have := hs.sub (Mr.C.rfl' q ((log : Int) * r))
    rw [show (log : Int) * r + (m - n) - (log : Int) * r = m - n by omega, ← Int.mul_sub] at this
    exact this
  refine C_small (Int.emod_nonneg _ (by omega)) (Int.emod_lt_of_pos _ (by omega)) (by omega) (by omega) ?_
  refine (C_q _).trans (((C_q (m - n)).mul (Mr.C.rfl' q (invN q d : Int))).trans ?_)
  have k2 := (k1.symm.mul (Mr.C.rfl' q (invN q d : Int)))
  refine k2.trans ?_
  rw [Int.mul_assoc]
  have k3 := (Mr.C.rfl' q (log : Int)).mul k
  rwa [Int.mul_one] at k3
end Go.Proofs.YtogbdnecpdcmiaaDoor
/-
  Products of powers of a valid group, where all numbers are in range.
-/
namespace Go.Proofs.YtogbdnecpdcmiaaDoor
open Go Go.RowKit Go.Shelf
/-- the array of a slice reads as a list of integers -/
structure SlAt (w : World) (B : Nat) (xs : List Int) : Prop where
  lt : B < w.heap.size
  at_ : ∀ j, j < xs.length → w.cell? ⟨B, j, none⟩ = some (.int .i64 (xs.getD j 0))
theorem SlAt.below {w w' : World} {B : Nat} {xs : List Int} (h : SlAt w B xs) (hk : Below w.heap.size w w') : SlAt w' B xs :=
  ⟨Nat.lt_of_lt_of_le h.lt hk.size, fun j hj => by rw [hk.cell (p := ⟨B, j, none⟩) h.lt]; exact h.at_ j hj⟩
theorem SlAt.get {w : World} {B : Nat} {xs : List Int} (h : SlAt w B xs) {j : Nat} (hj : j < xs.length) : ∃ x, x ∈ xs ∧ x = xs.getD j 0 ∧ w.cell? ⟨B, j, none⟩ = some (.int .i64 x) :=
  ⟨_, by rw [List.getD_eq_getElem?_getD, List.getElem?_eq_getElem hj]; exact List.getElem_mem _, rfl, h.at_ j hj⟩
theorem SlAt.of_cells (w : World) (xs : List Int) : SlAt (w.alloc (.cells (xs.map (Value.int .i64)).toArray 3)) w.heap.size xs := by
  refine ⟨size_lt _ _, fun j hj => ?_⟩
  rw [cell_of_row _ w.heap.size j _ _ _ (heap_alloc_new _ _)]
  simp [List.getD_eq_getElem?_getD, List.getElem?_eq_getElem hj]
set_option maxRecDepth 100000 in
set_option maxHeartbeats 400000 in
/-- nothing is found -/
theorem index_none (f : Nat) (lb : Array Value) (xs : List Int) (n B : Nat) (w : World) (eg : ∀ args w, (callFunc f args).run Tryd.prog w = .ok (.enter f args) w) (hn : xs.length = n) (hS : SlAt w B xs) (hl : n ≤ 1000)
    (hp : ∀ W x, x ∈ xs → Below w.heap.size w W → Calls Tryd.prog f (#[.int .i64 x] ++ lb) W (Ret (.bool false) W)) :
    Calls Tryd.prog 180 #[.slice (some ⟨B, 0, none⟩) n n, .func (.func f) #[] lb] w (Ret (.int .i64 (-1)) w) := by
  have HN := Lib.hid hn; have HS := Lib.hid hS; have HP := Lib.hid hp
  clear hn hS hp
  go_enter Tryd.func180, Tryd.ntmps180
  go_wp2
  go_loopw [5, 8] (fun _ vi wr => ∃ i : Nat, vi = .int .i64 i ∧ i ≤ n ∧ Below w.heap.size w wr) (fun _ vi _ => n - (intOf vi).toNat)
  case atStart => exact ⟨0, rfl, by omega, Below.refl _ _⟩
  case round =>
    obtain ⟨i, rfl, hi, hb⟩ := hrel
    by_cases hlt : i < n
    · obtain ⟨x, hxm, hx, hc⟩ := (HS.out.below hb).get (j := i) (by rw [HN.out]; exact hlt)
      have hcall := HP.out wr x hxm hb
      have HX := Lib.hid hx
      clear hx hxm
      go_wp2_with (go_at_fn f; refine hcall.mono ?_; rintro e w' ⟨rfl, hw⟩; have hb := below_next hb hw; clear hw)
      go_roundw
      case rel => exact ⟨i + 1, by go_num, by omega, hb⟩
      case measure => simp [intOf]; omega
    · have h12 : i = n := by omega
      subst h12
      go_wp2
      go_ret
      exact ret_of rfl hb
set_option maxRecDepth 100000 in
theorem contains_none (f : Nat) (lb : Array Value) (xs : List Int) (n B : Nat) (w : World) (eg : ∀ args w, (callFunc f args).run Tryd.prog w = .ok (.enter f args) w) (hn : xs.length = n) (hS : SlAt w B xs) (hl : n ≤ 1000)
    (hp : ∀ W x, x ∈ xs → Below w.heap.size w W → Calls Tryd.prog f (#[.int .i64 x] ++ lb) W (Ret (.bool false) W)) :
    Calls Tryd.prog 159 #[.slice (some ⟨B, 0, none⟩) n n, .func (.func f) #[] lb] w (Ret (.bool false) w) := by
  have HN := Lib.hid hn; have HS := Lib.hid hS; have HP := Lib.hid hp
  clear hn hS hp
  go_enter Tryd.func159, Tryd.ntmps159
  go_wp2_with (go_at_call 180; refine (index_none f lb xs n B _ eg HN.out HS.out hl HP.out).mono ?_; rintro e w' ⟨rfl, hw⟩)
  go_ret
  exact ret_of rfl hw
theorem pushArg (a b : Value) : (#[a] ++ #[b] : Array Value) = #[a, b] := rfl
/-- the box of a group -/
abbrev gCells (p q g : Int) : Obj := .cells #[.int .i64 p, .int .i64 q, .int .i64 g] 23
theorem gbox_at {w w' : World} {p q g : Int} (hB : Below (w.alloc (gCells p q g)).heap.size (w.alloc (gCells p q g)) w') (j : Nat) : w'.cell? ⟨w.heap.size, j, none⟩ = #[Value.int .i64 p, .int .i64 q, .int .i64 g][j]? := box_at hB j
theorem enters160 : Enters Tryd.prog 160 := enters_of Tryd.func160 (by kernel_rfl) rfl
theorem enters161 : Enters Tryd.prog 161 := enters_of Tryd.func161 (by kernel_rfl) rfl
set_option maxRecDepth 100000 in
theorem elements1_any (p q g x : Int) (B : Nat) (w : World) (hG : GSpec p q g) (hT : Tabs w) (hc : ∀ j, w.cell? ⟨B, j, none⟩ = #[Value.int .i64 p, .int .i64 q, .int .i64 g][j]?) (hx : memB p q x = true) :
    Calls Tryd.prog 160 #[.int .i64 x, .pointer (some ⟨B, 0, none⟩)] w (Ret (.bool false) w) := by
  have HG := Lib.hid hG
  clear hG
  go_enter Tryd.func160, Tryd.ntmps160
  go_wp2_with (go_at_call 108; refine (contains_any _ _ _ _ _ HG.out hT).mono ?_; rintro e w' ⟨rfl, hw⟩)
  go_ret
  exact ret_of rfl hw
set_option maxRecDepth 100000 in
theorem exponents1_any (p q g x : Int) (B : Nat) (w : World) (hc : ∀ j, w.cell? ⟨B, j, none⟩ = #[Value.int .i64 p, .int .i64 q, .int .i64 g][j]?) (x0 : 0 ≤ x) (hx : x < q) :
    Calls Tryd.prog 161 #[.int .i64 x, .pointer (some ⟨B, 0, none⟩)] w (Ret (.bool false) w) := by
  have t1 : decide (x < 0) = false := by simp; omega
  have t2 : decide (q ≤ x) = false := by simp; omega
  go_enter Tryd.func161, Tryd.ntmps161
  go_wp2
  go_ret
  exact ret_of rfl (Below.refl _ _)
set_option maxRecDepth 100000 in
theorem elements_ok (p q g : Int) (xs : List Int) (n B : Nat) (w : World) (hG : GSpec p q g) (hT : Tabs w) (hn : xs.length = n) (hS : SlAt w B xs) (hl : n ≤ 1000) (hx : ∀ x ∈ xs, memB p q x = true) :
    Calls Tryd.prog 135 #[gV p q g, .slice (some ⟨B, 0, none⟩) n n] w (Ret (.bool true) w) := by
  have hb := below_alloc w (gCells p q g)
  have hS2 := hS.below hb
  have hcon := contains_none 160 #[.pointer (some ⟨w.heap.size, 0, none⟩)] xs n B (w.alloc (gCells p q g)) enters160 hn hS2 hl (fun W x hxm hW => by
    rw [pushArg]
    exact elements1_any p q g x _ _ hG ((hT.alloc _).below hW) (gbox_at hW) (hx x hxm))
  have HCON := Lib.hid hcon
  clear hG hn hx hS hS2 hcon
  go_enter Tryd.func135, Tryd.ntmps135
  go_wp2_with (go_at_call 159; refine HCON.out.mono ?_; rintro e w' ⟨rfl, hw⟩)
  go_ret
  exact ret_of rfl (below_next hb hw)
set_option maxRecDepth 100000 in
theorem exponents_ok (p q g : Int) (xs : List Int) (n B : Nat) (w : World) (hn : xs.length = n) (hS : SlAt w B xs) (hl : n ≤ 1000) (hx : ∀ x ∈ xs, scB q x = true) :
    Calls Tryd.prog 136 #[gV p q g, .slice (some ⟨B, 0, none⟩) n n] w (Ret (.bool true) w) := by
  have hb := below_alloc w (gCells p q g)
  have hS2 := hS.below hb
  have hcon := contains_none 161 #[.pointer (some ⟨w.heap.size, 0, none⟩)] xs n B (w.alloc (gCells p q g)) enters161 hn hS2 hl (fun W x hxm hW => by
    rw [pushArg]
    exact exponents1_any p q g x _ _ (gbox_at hW) (scB_true.1 (hx x hxm)).1 (scB_true.1 (hx x hxm)).2)
  have HCON := Lib.hid hcon
  clear hn hx hS hS2 hcon
  go_enter Tryd.func136, Tryd.ntmps136
  go_wp2_with (go_at_call 159; refine HCON.out.mono ?_; rintro e w' ⟨rfl, hw⟩)
  go_ret
  exact ret_of rfl (below_next hb hw)
end Go.Proofs.YtogbdnecpdcmiaaDoor
/-
  group.Mul, and product.Product where all numbers are in range.
-/
namespace Go.Proofs.YtogbdnecpdcmiaaDoor
open Go Go.RowKit
theorem mem_mul {p q a b : Int} (p3 : 3 ≤ p) (q3 : 3 ≤ q) (ha : memB p q a = true) (hb : memB p q b = true) : memB p q ((a.toNat * b.toNat % p.toNat : Nat) : Int) = true :=
  mem_of_pow p3 (mul_one_pow (by omega) (memB_true.1 ha).2.2 (memB_true.1 hb).2.2) (by omega)
theorem mem_pow {p q a : Int} (p3 : 3 ≤ p) (q3 : 3 ≤ q) (ha : memB p q a = true) (k : Nat) : memB p q ((a.toNat ^ k % p.toNat : Nat) : Int) = true :=
  mem_of_pow p3 (pow_one_pow (by omega) (memB_true.1 ha).2.2 k) (by omega)
theorem mem_one {p q : Int} (p3 : 3 ≤ p) : memB p q 1 = true := memB_true.2 ⟨by omega, by omega, by
  rw [show (1 : Int).toNat = 1 from rfl, Nat.one_pow, Nat.mod_eq_of_lt (by omega)]⟩
set_option maxRecDepth 100000 in
set_option maxHeartbeats 400000 in
theorem gmul_any (p q g a b : Int) (w : World) (hG : GSpec p q g) (hT : Tabs w) (ha : memB p q a = true) (hb : memB p q b = true) :
    Calls Tryd.prog 157 #[gV p q g, .int .i64 a, .int .i64 b] w (Ret (.tuple #[.int .i64 (a.toNat * b.toNat % p.toNat : Nat), .int .i64 0]) w) := by
  have p3 := hG.p3; have pm := hG.pm; have q3 := hG.q3; have hqp := hG.qp
  obtain ⟨a1, ap⟩ := mem_pos ha
  obtain ⟨b1, bp⟩ := mem_pos hb
  have HA := Lib.hid ha; have HB := Lib.hid hb
  have HG := Lib.hid hG
  obtain ⟨R, hR⟩ : ∃ R, R = a.toNat * b.toNat % p.toNat := ⟨_, rfl⟩
  have HR := Lib.hid hR
  rw [← hR]
  clear hR hG ha hb
  have hb := below_next (below_alloc w (.cells #[.int .i64 p, .int .i64 q, .int .i64 g] 23)) (below_alloc _ (.cells #[.int .i64 a, .int .i64 b] 3))
  have hz : w.heap.size < ((w.alloc (.cells #[.int .i64 p, .int .i64 q, .int .i64 g] 23)).alloc (.cells #[.int .i64 a, .int .i64 b] 3)).heap.size := by simp; omega
  go_enter Tryd.func157, Tryd.ntmps157
  go_wp2_with (first
    | (go_at_call 74; refine (gcheck_any p q g [a, b] (w.heap.size + 1) _ HG.out ((hT.alloc _).alloc _) (by simp) 2 rfl (by omega) (by intro x hx; simp at hx; rcases hx with rfl | rfl; exact HA.out; exact HB.out) (by intro j hj; obtain rfl | rfl : j = 0 ∨ j = 1 := (by omega); simp; simp)).mono ?_; rintro e w' ⟨rfl, hw⟩; have hb := below_next hb hw; obtain ⟨hc, hf⟩ := bcell hw; have hz := Nat.lt_of_lt_of_le hz hw.size; clear hw)
    | (go_at_call 71; refine (wMul_z _ _ _ (by omega) ap (by omega) bp pm _).mono ?_; rintro e w' ⟨rfl, n, rfl⟩; rw [← HR.out]))
  go_ret2
  exact ret_of rfl (below_next hb (below_drewN _ _))
/-- a product of powers, as far as i -/
def prodTo (p : Nat) (xs es : List Int) : Nat → Nat
  | 0 => 1
  | i + 1 => prodTo p xs es i * ((xs.getD i 0).toNat ^ (es.getD i 0).toNat % p) % p
theorem prodTo_mem {p q : Int} (p3 : 3 ≤ p) (q3 : 3 ≤ q) (xs es : List Int) : ∀ i, i ≤ xs.length → (∀ x ∈ xs, memB p q x = true) → memB p q (prodTo p.toNat xs es i : Nat) = true := by
  intro i
  induction i with
  | zero => intro _ _; exact mem_one p3
  | succ i ih =>
    intro hi hx
    have h1 : memB p q (xs.getD i 0) = true := hx _ (by rw [List.getD_eq_getElem?_getD, List.getElem?_eq_getElem (by omega)]; exact List.getElem_mem _)
    have h2 := mem_mul p3 q3 (ih (by omega) hx) (mem_pow p3 q3 h1 (es.getD i 0).toNat)
    rw [Int.toNat_natCast, Int.toNat_natCast] at h2
    exact h2
theorem tabs_held {W w' : World} {P Q : Prop} (h : Tabs W) (hh : P ∧ Q ∧ Below W.heap.size W w') : Tabs w' := h.below hh.2.2
theorem keepP {W w0 w' : World} {b c j : Nat} {f : Nat → Option Value} {v : Option Value} {P Q : Prop} (h : ∀ j, W.cell? ⟨b, j, none⟩ = f j) (hb : b < W.heap.size) (h2 : W.cell? ⟨c, j, none⟩ = v) (hc : c < W.heap.size) (hw : Below w0.heap.size w0 w')
    (hh : P ∧ Q ∧ Below W.heap.size W w0) : (∀ j, w'.cell? ⟨b, j, none⟩ = f j) ∧ w'.cell? ⟨c, j, none⟩ = v ∧ Below W.heap.size W w' :=
  have k := below_next hh.2.2 hw
  ⟨box_keep h hb k, by rw [k.cell (p := ⟨c, j, none⟩) hc]; exact h2, k⟩
set_option maxRecDepth 100000 in
set_option maxHeartbeats 2000000 in
theorem powers_ok (p q g : Int) (xs es : List Int) (n B E : Nat) (w : World) (hG : GSpec p q g) (hT : Tabs w) (hn : xs.length = n) (hm : es.length = n) (hl : n ≤ 1000) (hS : SlAt w B xs) (hE : SlAt w E es)
    (hx : ∀ x ∈ xs, memB p q x = true) (he : ∀ x ∈ es, scB q x = true) :
    Calls Tryd.prog 137 #[gV p q g, .slice (some ⟨B, 0, none⟩) n n, .slice (some ⟨E, 0, none⟩) n n] w (Ret (.tuple #[.int .i64 (prodTo p.toNat xs es n : Nat), .int .i64 0]) w) := by
  have p3 := hG.p3; have pm := hG.pm; have q3 := hG.q3; have hqp := hG.qp
  have HG := Lib.hid hG; have HN := Lib.hid hn; have HM := Lib.hid hm; have HX := Lib.hid hx; have HE := Lib.hid he
  obtain ⟨W2, hW2, hB1, l1, hb⟩ := one_box w #[.int .i64 p, .int .i64 q, .int .i64 g] 23
  have hT2 : Tabs W2 := by rw [hW2]; exact hT.alloc _
  have hS2 : SlAt W2 B xs := by rw [hW2]; exact hS.below (below_alloc _ _)
  have hE2 : SlAt W2 E es := by rw [hW2]; exact hE.below (below_alloc _ _)
  have HS := Lib.hid hS2; have HEE := Lib.hid hE2; have HT := Lib.hid hT2; have HB1 := Lib.hid hB1
  clear hG hn hm hx he hS hE hS2 hE2 hT hT2
  go_enter Tryd.func137, Tryd.ntmps137
  go_upto_region 1 with (fail)
  rw [← hW2]
  obtain ⟨B1, hB1'⟩ : ∃ B, B = w.heap.size := ⟨_, rfl⟩
  rw [← hB1'] at HB1 l1 ⊢
  clear hW2 hB1' hB1
  go_wp2_with (fail)
  go_loopw [8, 9, 10, 11, 12, 15] (fun vo _ _ _ _ vi wr => ∃ i : Nat, vi = .int .i64 i ∧ i ≤ n ∧ vo = .int .i64 (prodTo p.toNat xs es i : Nat) ∧ Below W2.heap.size W2 wr) (fun _ _ _ _ _ vi _ => n - (intOf vi).toNat)
  case atStart => exact ⟨0, rfl, by omega, rfl, Below.refl _ _⟩
  case round =>
    obtain ⟨i, rfl, hi, rfl, hk⟩ := hrel
    by_cases hlt : i < n
    · obtain ⟨x, hxm, hx, hc⟩ := (HS.out.below hk).get (j := i) (by rw [HN.out]; exact hlt)
      obtain ⟨y, hym, hy, hd⟩ := (HEE.out.below hk).get (j := i) (by rw [HM.out]; exact hlt)
      have hxB := HX.out x hxm
      obtain ⟨y0, yq⟩ := scB_true.1 (HE.out y hym)
      have c1 := box_keep HB1.out l1 hk
      have hTr := HT.out.below hk
      obtain ⟨R, hR⟩ : ∃ R, R = x.toNat ^ (y % q).toNat % p.toNat := ⟨_, rfl⟩
      obtain ⟨O, hO⟩ : ∃ O, O = prodTo p.toNat xs es i := ⟨_, rfl⟩
      have hOm : memB p q (O : Int) = true := by rw [hO]; exact prodTo_mem p3 q3 xs es i (by have := HN.out; omega) HX.out
      have hRm : memB p q (R : Int) = true := by rw [hR]; exact mem_pow p3 q3 hxB _
      have hnext : prodTo p.toNat xs es (i + 1) = O * R % p.toNat := by
        rw [hO, hR, Int.emod_eq_of_lt y0 yq, hx, hy]; rfl
      rw [← hO]
      obtain ⟨W3, hW3⟩ : ∃ W3, W3 = wr := ⟨_, rfl⟩
      subst hW3
      have l1' := Nat.lt_of_lt_of_le l1 hk.size
      have lE : E < W3.heap.size := (HEE.out.below hk).lt
      have HC1 := Lib.hid c1; have HD := Lib.hid hd; have HTR := Lib.hid hTr; have HR := Lib.hid hR; have HO := Lib.hid hO; have HOM := Lib.hid hOm; have HRM := Lib.hid hRm; have HNX := Lib.hid hnext; have HXB := Lib.hid hxB
      have HY := Lib.hid hy; have HXE := Lib.hid hx
      clear hR hO hOm hRm hnext hxB hTr hxm hym hx hy
      go_upto_region 5 with (fail)
      clear c1 hd hc
      go_region_held3 (fun w' => (∀ j, w'.cell? ⟨B1, j, none⟩ = #[Value.int .i64 p, .int .i64 q, .int .i64 g][j]?) ∧ (w'.cell? ⟨E, i, none⟩ = some (.int .i64 y)) ∧ Below W3.heap.size W3 w')
        (first
          | exact ⟨HC1.out, HD.out, (Below.refl _ _).drew⟩
          | exact keepP HC1.out l1' HD.out lE (by assumption) (by assumption))
        ((go_at_call 30; refine (gpower_any _ _ _ _ _ _ HG.out (tabs_held HTR.out (by assumption)) HXB.out).mono ?_; rintro e w' ⟨rfl, hw⟩; rw [← HR.out]))
      all_goals
        have hh : (∀ j, w'.cell? ⟨B1, j, none⟩ = #[Value.int .i64 p, .int .i64 q, .int .i64 g][j]?) ∧ (w'.cell? ⟨E, i, none⟩ = some (.int .i64 y)) ∧ Below W3.heap.size W3 w' := by assumption
        obtain ⟨c1, -, hk2⟩ := hh
        have hT3 := HTR.out.below hk2
        have hk3 := below_next hk hk2
        go_wp2_with (go_at_call 157; refine (gmul_any _ _ _ _ _ _ HG.out hT3 HOM.out HRM.out).mono ?_; rintro e w'' ⟨rfl, hw⟩; rw [Int.toNat_natCast, Int.toNat_natCast, ← HNX.out])
        have hk4 := below_next hk3 hw
        go_roundw
        case rel => exact ⟨i + 1, by go_num, by omega, rfl, hk4⟩
        case measure => simp [intOf]; omega
    · have h12 : i = n := by omega
      subst h12
      go_wp2
      go_ret2
      exact ret_of rfl (below_next hb hk)
set_option maxRecDepth 100000 in
set_option maxHeartbeats 1000000 in
/-- product.Product where all is in range -/
theorem product_ok (p q g : Int) (xs es : List Int) (n B E : Nat) (w : World) (hG : GSpec p q g) (hT : Tabs w) (hn : xs.length = n) (hm : es.length = n) (hl : n ≤ 100) (hS : SlAt w B xs) (hE : SlAt w E es)
    (hx : ∀ x ∈ xs, memB p q x = true) (he : ∀ x ∈ es, scB q x = true) :
    Calls Tryd.prog 115 #[gV p q g, .slice (some ⟨B, 0, none⟩) n n, .slice (some ⟨E, 0, none⟩) n n] w (Ret (.tuple #[.int .i64 (prodTo p.toNat xs es n : Nat), .int .i64 0]) w) := by
  have p3 := hG.p3; have pm := hG.pm; have q3 := hG.q3; have hqp := hG.qp
  have hv : gvalB p q g = true := gvalB_true.2 hG
  have HG := Lib.hid hG; have HN := Lib.hid hn; have HM := Lib.hid hm; have HX := Lib.hid hx; have HE := Lib.hid he
  obtain ⟨W2, hW2, hB1, l1, hb⟩ := one_box w #[.int .i64 p, .int .i64 q, .int .i64 g] 23
  have hT2 : Tabs W2 := by rw [hW2]; exact hT.alloc _
  have hS2 : SlAt W2 B xs := by rw [hW2]; exact hS.below (below_alloc _ _)
  have hE2 : SlAt W2 E es := by rw [hW2]; exact hE.below (below_alloc _ _)
  have HS := Lib.hid hS2; have HEE := Lib.hid hE2; have HT := Lib.hid hT2; have HB1 := Lib.hid hB1
  clear hG hn hm hx he hS hE hS2 hE2 hT hT2
  go_enter Tryd.func115, Tryd.ntmps115
  go_upto_region 1 with (fail)
  rw [← hW2]
  obtain ⟨B1, hB1'⟩ : ∃ B, B = w.heap.size := ⟨_, rfl⟩
  rw [← hB1'] at hB1 HB1 l1 ⊢
  have hk : Below W2.heap.size W2 W2 := Below.refl _ _
  have c1 := hB1
  have hT := HT.out
  clear hW2 hB1' hB1
  go_wp2_with (first
    | (go_at_call 101; refine (gvalid_any _ _ _ _ (by omega) (by omega) (by omega) (by omega) (by assumption)).mono ?_; rintro e w' ⟨rfl, hw⟩; have hk := below_next hk hw; have c1 := box_keep HB1.out l1 hk; have hT := HT.out.below hk; clear hw)
    | (go_at_call 135; refine (elements_ok _ _ _ xs n _ _ HG.out (by assumption) HN.out (HS.out.below (by assumption)) (by omega) HX.out).mono ?_; rintro e w' ⟨rfl, hw⟩; have hk := below_next hk hw; have c1 := box_keep HB1.out l1 hk; have hT := HT.out.below hk; clear hw)
    | (go_at_call 136; refine (exponents_ok _ _ _ es n _ _ HM.out (HEE.out.below (by assumption)) (by omega) HE.out).mono ?_; rintro e w' ⟨rfl, hw⟩; have hk := below_next hk hw; have c1 := box_keep HB1.out l1 hk; have hT := HT.out.below hk; clear hw)
    | (go_at_call 137; refine (powers_ok _ _ _ xs es n _ _ _ HG.out (by assumption) HN.out HM.out (by omega) (HS.out.below (by assumption)) (HEE.out.below (by assumption)) HX.out HE.out).mono ?_; rintro e w' ⟨rfl, hw⟩; have hk := below_next hk hw; clear hw))
  go_ret2
  exact ret_of rfl (below_next hb hk)
end Go.Proofs.YtogbdnecpdcmiaaDoor
