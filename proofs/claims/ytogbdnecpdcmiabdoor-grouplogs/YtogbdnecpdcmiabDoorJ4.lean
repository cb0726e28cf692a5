/-
  Elements of a group of prime order are powers of each other.
-/
import Derived.Test.YtogbdnecpdcmiabDoorJ3
import Derived.Maps.OwnSet
import Derived.Test.YtogbdnecpdcmiabDoorMrA
import Derived.Test.YtogbdnecpdcmiabDoorMr
/-
  Baby steps and giant steps: plain mathematics, and what the map of the baby steps holds.
-/
namespace Go.Proofs.YtogbdnecpdcmiabDoor
open Go
/-- m has the order q modulo p. -/
structure Cyc (p q m : Nat) : Prop where
  p2 : 2 ≤ p
  q0 : 0 < q
  one : m ^ q % p = 1
  inj : ∀ a b, m ^ a % p = m ^ b % p → a % q = b % q
/-- s is the logarithm of x. -/
structure LogN (p q m x s : Nat) : Prop where
  lt : s < q
  eq : m ^ s % p = x
theorem LogN.unique {p q m x s s' : Nat} (hC : Cyc p q m) (h : LogN p q m x s) (h' : LogN p q m x s') : s = s' := by
  have := hC.inj s s' (h.eq.trans h'.eq.symm)
  rwa [Nat.mod_eq_of_lt h.lt, Nat.mod_eq_of_lt h'.lt] at this
theorem pow_mod_order {p q m : Nat} (hC : Cyc p q m) (a : Nat) : m ^ (a % q) % p = m ^ a % p := by
  have e : a = q * (a / q) + a % q := (Nat.div_add_mod a q).symm
  have h1 : (m ^ q) ^ (a / q) % p = 1 := by
    rw [Nat.pow_mod, hC.one, Nat.one_pow, Nat.mod_eq_of_lt (by have := hC.p2; omega)]
  have h2 : m ^ a % p = m ^ (a % q) % p := by
    conv => lhs; rw [e, Nat.pow_add, Nat.pow_mul, Nat.mul_mod, h1, Nat.one_mul, Nat.mod_mod]
  exact h2.symm
theorem log_mul {p q m x s : Nat} (h : LogN p q m x s) (i : Nat) : x * m ^ i % p = m ^ (s + i) % p := by
  rw [← h.eq, Nat.mod_mul_mod, ← Nat.pow_add]
theorem log_hit {p q m x s i k : Nat} (hC : Cyc p q m) (h : LogN p q m x s) (e : x * m ^ i % p = m ^ (1024 * k) % p) : ((k : Int) * 1024 - (i : Int)) % (q : Int) = (s : Int) := by
  rw [log_mul h] at e
  have h1 := hC.inj _ _ e
  have a1 := Nat.div_add_mod (s + i) q
  have a2 := Nat.div_add_mod (1024 * k) q
  rw [h1] at a1
  generalize (1024 * k) % q = r at a1 a2
  generalize (s + i) / q = u at a1
  generalize 1024 * k / q = v at a2
  have h3 : (k : Int) * 1024 - (i : Int) = (s : Int) + (q : Int) * ((v : Int) - (u : Int)) := by
    have b1 : ((q * u : Nat) : Int) = (q : Int) * (u : Int) := Int.natCast_mul q u
    have b2 : ((q * v : Nat) : Int) = (q : Int) * (v : Int) := Int.natCast_mul q v
    rw [Int.mul_sub, ← b1, ← b2]
    generalize q * u = X at a1
    generalize q * v = Y at a2
    omega
  rw [h3, Int.add_mul_emod_self_left]
  have := h.lt
  exact Int.emod_eq_of_lt (by omega) (by omega)
/-- the giant step at which the logarithm is found -/
def giantAt (s : Nat) : Nat := (s + 1023) / 1024
theorem giant_meet {p q m x s : Nat} (h : LogN p q m x s) : ∃ i, i < 1024 ∧ x * m ^ i % p = m ^ (1024 * giantAt s) % p := by
  refine ⟨1024 * giantAt s - s, by unfold giantAt; omega, ?_⟩
  rw [log_mul h]
  congr 2
  unfold giantAt; omega
theorem giant_lt {q s : Nat} (h : s < q) : giantAt s < q / 1024 + 2 := by unfold giantAt; omega
/-- what the map holds behind k baby steps -/
structure BInv (p m x : Nat) (D : DataW Unit) (k : Nat) : Prop where
  isMap : Maps.IsMap D
  there : ∀ i, i < k → Maps.has D (.int .i64 ((x * m ^ i % p : Nat) : Int)) = true
  val : ∀ y : Int, Maps.has D (.int .i64 y) = true → ∃ i : Nat, i < k ∧ y = ((x * m ^ i % p : Nat) : Int) ∧ D.atKey (.int .i64 y) (.lit (.int .i64 0)) = .lit (.int .i64 (i : Int))
theorem BInv.start (p m x : Nat) : BInv p m x (.map []) 0 := ⟨Maps.isMap_empty, fun i hi => by omega, fun y hy => by simp [Maps.has] at hy⟩
theorem isKeyLit_int (y : Int) : WideAt.IsKeyLit (.int .i64 y) := by unfold WideAt.IsKeyLit; trivial
theorem BInv.next {p m x : Nat} {D : DataW Unit} {k : Nat} (h : BInv p m x D k) :
    BInv p m x (D.put (.int .i64 ((x * m ^ k % p : Nat) : Int)) (.lit (.int .i64 (k : Int)))) (k + 1) := by
  refine ⟨h.isMap.put _ _, fun i hi => ?_, fun y hy => ?_⟩
  · by_cases e : (.int .i64 ((x * m ^ i % p : Nat) : Int) : Lit) = .int .i64 ((x * m ^ k % p : Nat) : Int)
    · rw [e]; exact Maps.has_put_same h.isMap (isKeyLit_int _) _
    · rw [Maps.has_put_other e]
      refine h.there i ?_
      rcases Nat.eq_or_lt_of_le (Nat.le_of_lt_succ hi) with rfl | h3
      · exact absurd rfl e
      · exact h3
  · by_cases e : (.int .i64 y : Lit) = .int .i64 ((x * m ^ k % p : Nat) : Int)
    · have ey : y = ((x * m ^ k % p : Nat) : Int) := by injection e
      refine ⟨k, by omega, ey, ?_⟩
      rw [e]; exact Maps.atKey_put_same h.isMap (isKeyLit_int _) _ _
    · rw [Maps.has_put_other e] at hy
      obtain ⟨i, hi, ey, hat⟩ := h.val y hy
      exact ⟨i, by omega, ey, by rw [Maps.atKey_put_other e]; exact hat⟩
end Go.Proofs.YtogbdnecpdcmiabDoor
/-
  The elements of a group of prime order are powers of each one but 1: plain mathematics.
-/
namespace Go.Proofs.YtogbdnecpdcmiabDoor
open Go
theorem pow_one_mod {p q m : Nat} (h2 : 2 ≤ p) (h1 : m ^ q % p = 1) (k : Nat) : m ^ (q * k) % p = 1 := by
  rw [Nat.pow_mul, Nat.pow_mod, h1, Nat.one_pow, Nat.mod_eq_of_lt (by omega)]
theorem pow_red {p q m : Nat} (h2 : 2 ≤ p) (h1 : m ^ q % p = 1) (a : Nat) : m ^ a % p = m ^ (a % q) % p := by
  conv => lhs; rw [← Nat.div_add_mod a q, Nat.pow_add, Nat.mul_mod, pow_one_mod h2 h1, Nat.one_mul, Nat.mod_mod]
theorem pow_cancel {p m : Nat} (hp : Mr.Pm p) (hm : ¬ p ∣ m) {a e : Nat} (h : m ^ (a + e) % p = m ^ a % p) : m ^ e % p = 1 := by
  have h3 : Mr.C p (((m : Int) ^ e) * (m : Int) ^ a) (1 * (m : Int) ^ a) := by
    rw [← Int.pow_add, Int.one_mul, Nat.add_comm e a, ← Int.natCast_pow, ← Int.natCast_pow]
    exact Mr.C.nat_iff.2 h
  have h4 : ¬ Mr.C p ((m : Int) ^ a) 0 := hp.pow_ne (fun h5 => hm (Mr.C.zero_iff.1 h5)) a
  have h5 := h3.cancel hp h4
  rw [← Int.natCast_pow, show (1 : Int) = ((1 : Nat) : Int) from rfl] at h5
  have h6 := Mr.C.nat_iff.1 h5
  rwa [Nat.mod_eq_of_lt (show 1 < p by have := hp.1; omega)] at h6
/-- an element of a prime order q is of the order q -/
theorem cyc_of {p q x : Nat} (hp : Mr.Pm p) (hq : Mr.Pm q) (hx : x ^ q % p = 1) (h0 : 0 < x) (hxp : x < p) (h1 : x ≠ 1) : Cyc p q x := by
  have hp2 := hp.1
  have hnd : ¬ p ∣ x := fun h => by have := Nat.le_of_dvd h0 h; omega
  have key : ∀ e, 0 < e → e < q → x ^ e % p ≠ 1 := by
    intro e he heq h
    obtain ⟨m, ⟨hm0, hm1⟩, hml⟩ := Mr.exists_least (fun m => 0 < m ∧ x ^ m % p = 1) ⟨e, he, h⟩
    have dv : ∀ k, x ^ k % p = 1 → m ∣ k := by
      intro k hk
      rcases Nat.eq_zero_or_pos (k % m) with h2 | h2
      · exact Nat.dvd_of_mod_eq_zero h2
      · have h3 := hml (k % m) ⟨h2, by rw [← pow_red hp2 hm1]; exact hk⟩
        have := Nat.mod_lt k hm0
        omega
    rcases hq.2 m (dv q hx) with rfl | rfl
    · rw [Nat.pow_one, Nat.mod_eq_of_lt hxp] at hm1; exact h1 hm1
    · have := Nat.le_of_dvd he (dv e h); omega
  refine ⟨hp2, by have := hq.1; omega, hx, ?_⟩
  have half : ∀ a b, a ≤ b → x ^ a % p = x ^ b % p → b < q → a = b := by
    intro a b hab h hb
    obtain ⟨e, rfl⟩ : ∃ e, b = a + e := ⟨b - a, by omega⟩
    have h2 := pow_cancel hp hnd h.symm
    rcases Nat.eq_zero_or_pos e with h3 | h3
    · omega
    · exact absurd h2 (key e h3 (by omega))
  intro a b h
  have hq0 : 0 < q := by have := hq.1; omega
  rw [pow_red hp2 hx a, pow_red hp2 hx b] at h
  rcases Nat.le_total (a % q) (b % q) with h2 | h2
  · exact half _ _ h2 h (Nat.mod_lt _ hq0)
  · exact (half _ _ h2 h.symm (Nat.mod_lt _ hq0)).symm
theorem pow_mod_lt {p : Nat} (h : 2 ≤ p) (a : Nat) : a % p < p := Nat.mod_lt _ (by omega)
/-- each element is a power -/
theorem log_of {p q x y : Nat} (hp : Mr.Pm p) (hC : Cyc p q x) (hy : y ^ q % p = 1) (hyp : y < p) : ∃ s, LogN p q x y s := by
  apply Classical.byContradiction
  intro hn
  have hp2 := hp.1
  have hno : ∀ s, s < q → x ^ s % p ≠ y := fun s hs he => hn ⟨s, hs, he⟩
  have cne : ∀ a b : Nat, a < p → b < p → a ≠ b → ¬ Mr.C p (a : Int) (b : Int) := by
    intro a b ha hb h h2
    have := Mr.C.nat_iff.1 h2
    rw [Nat.mod_eq_of_lt ha, Nat.mod_eq_of_lt hb] at this
    exact h this
  have h1 := Mr.roots_pow_le hp hC.q0 ((y : Int) :: (List.range q).map (fun i => ((x ^ i % p : Nat) : Int))) (by
    rw [List.pairwise_cons]
    constructor
    · intro z hz
      obtain ⟨i, hi, rfl⟩ := List.mem_map.1 hz
      exact cne _ _ hyp (pow_mod_lt hp2 _) (fun h => hno i (List.mem_range.1 hi) h.symm)
    · rw [List.pairwise_map]
      refine List.Pairwise.imp_of_mem ?_ (List.pairwise_lt_range (n := q))
      intro a b ha hb hab
      refine cne _ _ (pow_mod_lt hp2 _) (pow_mod_lt hp2 _) (fun h => ?_)
      have h3 := hC.inj a b h
      rw [Nat.mod_eq_of_lt (List.mem_range.1 ha), Nat.mod_eq_of_lt (List.mem_range.1 hb)] at h3
      omega) (by
    intro r hr
    rcases List.mem_cons.1 hr with rfl | hr
    · rw [← Int.natCast_pow, show (1 : Int) = ((1 : Nat) : Int) from rfl]
      exact Mr.C.nat_iff.2 (by rw [hy, Nat.mod_eq_of_lt (by omega)])
    · obtain ⟨i, hi, rfl⟩ := List.mem_map.1 hr
      rw [← Int.natCast_pow, show (1 : Int) = ((1 : Nat) : Int) from rfl]
      refine Mr.C.nat_iff.2 ?_
      rw [← Nat.pow_mod, ← Nat.pow_mul, Nat.mul_comm, pow_one_mod hp2 hC.one, Nat.mod_eq_of_lt (by omega)])
  simp only [List.length_cons, List.length_map, List.length_range] at h1
  omega
end Go.Proofs.YtogbdnecpdcmiabDoor
/-
  What prime.Is accepts below 2^61 is a prime.
-/
namespace Go.Proofs.YtogbdnecpdcmiabDoor
open Go
theorem strong_of {n s d a : Nat} (h2 : 2 ≤ n) (h : Passes n s d a) : Mr.Strong n s d a := by
  rcases h with h | ⟨i, hi, h⟩
  · refine Or.inl ?_
    rw [← Int.natCast_pow, show (1 : Int) = ((1 : Nat) : Int) from rfl]
    exact Mr.C.nat_iff.2 (by rw [h, Nat.mod_eq_of_lt (by omega)])
  · refine Or.inr ⟨i, hi, ?_⟩
    have h1 : Mr.C n (((a ^ (2 ^ i * d) : Nat) : Int)) ((n - 1 : Nat) : Int) := Mr.C.nat_iff.2 (by rw [h, Nat.mod_eq_of_lt (by omega)])
    rw [Int.natCast_pow] at h1
    refine h1.trans ?_
    unfold Mr.C
    exact ⟨1, by omega⟩
theorem base_pm : ∀ i, i < 12 → ∀ d, d ≤ 37 → d ≤ bse i → bse i % d = 0 → d = 1 ∨ d = bse i := by decide +kernel
theorem pm_of_is {n : Nat} (h : isB n = true) (hn : n < 2305843009213693952) : Mr.Pm n := by
  obtain ⟨h2, ⟨i, hi, rfl⟩ | ⟨hu, hs⟩⟩ := isB_true.1 h
  · refine ⟨h2, fun d hd => ?_⟩
    have := Nat.le_of_dvd (by omega) hd
    have h3 := (bse_all i hi).2.1
    exact base_pm i hi d (by omega) this (Nat.mod_eq_zero_of_dvd hd)
  · have hU : Undiv n 12 := hu
    have h41 := hU.ge h2
    have hodd := hU.odd
    obtain ⟨s, d, _, hd, he, _⟩ := ctz_spec h41 hodd (by omega)
    refine Mr.prime_of_strong (s := s) (d := d) ⟨hd, he, hodd, h2, fun a ha => ?_, fun q hq hqn => ?_⟩ hn
    · have : ∃ i, i < 12 ∧ a = bse i := by
        have h5 : ∀ a ∈ Mr.bases, ∃ i, i < 12 ∧ a = bse i := by decide +kernel
        exact h5 a ha
      obtain ⟨i, hi, rfl⟩ := this
      exact strong_of h2 (hs i hi s d he hd)
    · rcases Nat.lt_or_ge q 41 with h5 | h5
      · exfalso
        obtain ⟨i, hi, h6⟩ := small_base q h5 hq.1
        exact hu i hi (Nat.mod_eq_zero_of_dvd (Nat.dvd_trans (Nat.dvd_of_mod_eq_zero h6) hqn))
      · exact h5
theorem GSpec.pmp {p q g : Int} (h : GSpec p q g) : Mr.Pm p.toNat := pm_of_is h.isp (by have := h.pm; have := h.p3; omega)
theorem GSpec.pmq {p q g : Int} (h : GSpec p q g) : Mr.Pm q.toNat := pm_of_is h.isq (by have := h.pm; have := h.p3; have := h.qp; have := h.q3; omega)
theorem GSpec.cyc {p q g x : Int} (h : GSpec p q g) (hx : memB p q x = true) (h1 : x ≠ 1) : Cyc p.toNat q.toNat x.toNat := by
  obtain ⟨a, b, c⟩ := memB_true.1 hx
  exact cyc_of h.pmp h.pmq c (by omega) (by omega) (by omega)
theorem GSpec.log {p q g x y : Int} (h : GSpec p q g) (hx : memB p q x = true) (h1 : x ≠ 1) (hy : memB p q y = true) : ∃ s, LogN p.toNat q.toNat x.toNat y.toNat s := by
  obtain ⟨a, b, c⟩ := memB_true.1 hy
  exact log_of h.pmp (h.cyc hx h1) c (by omega)
end Go.Proofs.YtogbdnecpdcmiabDoor
