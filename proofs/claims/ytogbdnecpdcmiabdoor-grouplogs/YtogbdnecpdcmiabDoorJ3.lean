/-
  Groups and bases: when they are valid, and what an element is.
-/
import Derived.Test.YtogbdnecpdcmiabDoorJ2
import Derived.Deep.RegionHeld3
/-
  When a group is valid, and what an element is: plain mathematics.
-/
namespace Go.Proofs.YtogbdnecpdcmiabDoor
open Go
/-- p, q, g are a valid group. -/
structure GSpec (p q g : Int) : Prop where
  p3 : 3 ≤ p
  pm : p < 2305843009213693952
  q3 : 3 ≤ q
  q2 : q % 2 = 1
  dv : (p - 1) % q = 0
  g2 : 2 ≤ g
  gp : g < p
  isp : isB p.toNat = true
  isq : isB q.toNat = true
  pw : g.toNat ^ q.toNat % p.toNat = 1
open Classical in
noncomputable def gvalB (p q g : Int) : Bool := decide (GSpec p q g)
theorem gvalB_true {p q g : Int} : gvalB p q g = true ↔ GSpec p q g := by unfold gvalB; simp
theorem gvalB_false {p q g : Int} : gvalB p q g = false ↔ ¬ GSpec p q g := by unfold gvalB; simp
/-- x is an element. -/
def MemSpec (p q x : Int) : Prop := 1 ≤ x ∧ x < p ∧ x.toNat ^ q.toNat % p.toNat = 1
instance (p q x : Int) : Decidable (MemSpec p q x) := by unfold MemSpec; infer_instance
def memB (p q x : Int) : Bool := decide (MemSpec p q x)
theorem memB_true {p q x : Int} : memB p q x = true ↔ MemSpec p q x := by unfold memB; simp
theorem memB_false {p q x : Int} : memB p q x = false ↔ ¬ MemSpec p q x := by unfold memB; simp
/-- the bases are valid -/
structure BSpec (p q g g1 g2 h : Int) : Prop where
  G : GSpec p q g
  n1 : g1 ≠ 1
  n2 : g2 ≠ 1
  n3 : h ≠ 1
  m1 : memB p q g1 = true
  m2 : memB p q g2 = true
  m3 : memB p q h = true
open Classical in
noncomputable def bvalB (p q g g1 g2 h : Int) : Bool := decide (BSpec p q g g1 g2 h)
theorem bvalB_true {p q g g1 g2 h : Int} : bvalB p q g g1 g2 h = true ↔ BSpec p q g g1 g2 h := by unfold bvalB; simp
theorem bvalB_false {p q g g1 g2 h : Int} : bvalB p q g g1 g2 h = false ↔ ¬ BSpec p q g g1 g2 h := by unfold bvalB; simp
/-- from 0 to q - 1 -/
def scB (q x : Int) : Bool := decide (0 ≤ x ∧ x < q)
theorem scB_true {q x : Int} : scB q x = true ↔ 0 ≤ x ∧ x < q := by unfold scB; simp
theorem scB_false {q x : Int} : scB q x = false ↔ ¬ (0 ≤ x ∧ x < q) := by unfold scB; simp
/-- the numbers of a leaf are in range -/
structure LeafOK (p q ps leaf d r1 r2 : Int) : Prop where
  n : ps ≠ 1
  ps : memB p q ps = true
  lf : memB p q leaf = true
  d : scB q d = true
  r1 : scB q r1 = true
  r2 : scB q r2 = true
/-- g1^x g2^y -/
def pairN (p g1 g2 x y : Nat) : Nat := (g1 ^ x % p) * (g2 ^ y % p) % p
/-- the leaf was spent with these responses -/
def spentP (p g1 g2 ps leaf d r1 r2 : Nat) : Prop := pairN p g1 g2 r1 r2 = (ps ^ d % p) * leaf % p
theorem GSpec.qp {p q g : Int} (h : GSpec p q g) : q ≤ p - 1 := by
  have h1 := h.dv; have h2 := h.q3; have h3 := h.p3
  have := Int.le_of_dvd (by omega) (Int.dvd_of_emod_eq_zero h1)
  exact this
end Go.Proofs.YtogbdnecpdcmiabDoor
/-
  group.Valid.
-/
namespace Go.Proofs.YtogbdnecpdcmiabDoor
open Go Go.RowKit
theorem Tabs.alloc {w : World} (h : Tabs w) (o : Obj) : Tabs (w.alloc o) := h.below ((Below.refl _ _).alloc (Nat.le_refl _) o)
theorem Tabs.drew {w w' : World} (h : Tabs w) (k : Drew w w') : Tabs w' := h.below k.below
theorem below_alloc (w : World) (o : Obj) : Below w.heap.size w (w.alloc o) := (Below.refl _ _).alloc (Nat.le_refl _) o
theorem Tabs.drewN {w : World} (h : Tabs w) (n : Nat) : Tabs (w.drewN n) := h.below (below_drewN w n)
theorem wpow_z (a e m : Int) (ha0 : 0 ≤ a) (ha : a < m) (he0 : 0 ≤ e) (he : e < 9223372036854775808) (hm : m < 2305843009213693952) (w : World) :
    Calls Tryd.prog 30 #[.int .i64 a, .int .i64 e, .int .i64 m] w (RetQ (.tuple #[.int .i64 (a.toNat ^ e.toNat % m.toNat : Nat), .int .i64 0]) w) := by
  obtain ⟨A, rfl⟩ : ∃ A : Nat, a = A := ⟨a.toNat, by omega⟩
  obtain ⟨E, rfl⟩ : ∃ E : Nat, e = E := ⟨e.toNat, by omega⟩
  obtain ⟨M, rfl⟩ : ∃ M : Nat, m = M := ⟨m.toNat, by omega⟩
  simp only [Int.toNat_natCast]
  exact wpow_any A E M (by omega) (by omega) (by omega) w
theorem rpow_z (a e m : Int) (ha0 : 0 ≤ a) (ha : a < m) (he0 : 0 ≤ e) (he : e < 9223372036854775808) (hm : m < 2305843009213693952) (w : World) :
    Calls Tryd.prog 32 #[.int .i64 a, .int .i64 e, .int .i64 m] w (RetQ (.int .i64 (a.toNat ^ e.toNat % m.toNat : Nat)) w) := by
  obtain ⟨A, rfl⟩ : ∃ A : Nat, a = A := ⟨a.toNat, by omega⟩
  obtain ⟨E, rfl⟩ : ∃ E : Nat, e = E := ⟨e.toNat, by omega⟩
  obtain ⟨M, rfl⟩ : ∃ M : Nat, m = M := ⟨m.toNat, by omega⟩
  simp only [Int.toNat_natCast]
  exact rpow_any A E M (by omega) (by omega) (by omega) w
theorem isB_two {n : Nat} (h : isB n = true) : 2 ≤ n := (isB_true.1 h).1
theorem toNat_cast {a : Int} (h : 0 ≤ a) : ((a.toNat : Nat) : Int) = a := Int.toNat_of_nonneg h
set_option maxRecDepth 100000 in
set_option maxHeartbeats 4000000 in
theorem gvalid_any (p q g : Int) (w : World) (hp : -9223372036854775808 ≤ p) (hp2 : p ≤ 9223372036854775807) (hq : -9223372036854775808 ≤ q) (hq2 : q ≤ 9223372036854775807) (hT : Tabs w) :
    Calls Tryd.prog 9 #[.agg #[.int .i64 p, .int .i64 q, .int .i64 g]] w (Ret (.bool (gvalB p q g)) w) := by
  obtain ⟨b, hb0⟩ : ∃ b, b = gvalB p q g := ⟨_, rfl⟩
  have HB := Lib.hid hb0
  rw [← hb0]
  clear hb0
  by_cases c1 : 2305843009213693952 ≤ p
  · have hf : b = false := by rw [HB.out, gvalB_false]; intro h; have := h.pm; omega
    subst hf
    have t1 : decide ((2305843009213693952 : Int) ≤ p) = true := by simp; omega
    clear c1
    go_enter Tryd.func9, Tryd.ntmps9
    go_wp2
    go_ret
    exact ret_of rfl (below_alloc _ _)
  · have t1 : decide ((2305843009213693952 : Int) ≤ p) = false := by simp; omega
    have pm : p < 2305843009213693952 := by omega
    clear c1
    by_cases c2 : q < 3
    · have hf : b = false := by rw [HB.out, gvalB_false]; intro h; have := h.q3; omega
      subst hf
      have t2 : decide (q < 3) = true := by simp; omega
      clear c2
      go_enter Tryd.func9, Tryd.ntmps9
      go_wp2
      go_ret
      exact ret_of rfl (below_alloc _ _)
    · have t2 : decide (q < 3) = false := by simp; omega
      have q3 : 3 ≤ q := by omega
      clear c2
      by_cases c3 : q % 2 = 0
      · have hf : b = false := by rw [HB.out, gvalB_false]; intro h; have := h.q2; omega
        subst hf
        have t3 : (q % 2 == 0) = true := by simp; omega
        clear c3
        go_enter Tryd.func9, Tryd.ntmps9
        go_wp2
        go_ret
        exact ret_of rfl (below_alloc _ _)
      · have t3 : (q % 2 == 0) = false := by simp; omega
        have hq2' : q % 2 = 1 := by omega
        have Q2 := Lib.hid hq2'
        clear c3 hq2'
        by_cases c4 : isB p.toNat = false
        · have hf : b = false := by rw [HB.out, gvalB_false]; intro h; rw [h.isp] at c4; exact Bool.noConfusion c4
          subst hf
          skip
          go_enter Tryd.func9, Tryd.ntmps9
          go_wp2_with (go_at_call 29; refine (is_all _ _ (by omega) (by first | exact Tabs.alloc hT _ | exact Tabs.drewN (Tabs.alloc hT _) _)).mono ?_; rintro e w' ⟨rfl, n, rfl⟩)
          go_ret
          exact ret_of rfl (below_next (below_alloc _ _) (below_drewN _ _))
        · have t4 : isB p.toNat = true := by simpa using c4
          have p2 : 2 ≤ p := by have := isB_two t4; omega
          clear c4
          by_cases c5 : isB q.toNat = false
          · have hf : b = false := by rw [HB.out, gvalB_false]; intro h; rw [h.isq] at c5; exact Bool.noConfusion c5
            subst hf
            skip
            go_enter Tryd.func9, Tryd.ntmps9
            go_wp2_with (go_at_call 29; refine (is_all _ _ (by omega) (by first | exact Tabs.alloc hT _ | exact Tabs.drewN (Tabs.alloc hT _) _)).mono ?_; rintro e w' ⟨rfl, n, rfl⟩)
            go_ret
            exact ret_of rfl (below_next (below_alloc _ _) (below_drewN _ _))
          · have t5 : isB q.toNat = true := by simpa using c5
            clear c5
            by_cases c6 : ¬ (p - 1) % q = 0
            · have hf : b = false := by rw [HB.out, gvalB_false]; intro h; exact c6 h.dv
              subst hf
              have t6 : ((p - 1) % q == 0) = false := by simp; omega
              have t6' : ((p - 1) % q != 0) = true := by simp; omega
              go_enter Tryd.func9, Tryd.ntmps9
              go_wp2_with (go_at_call 29; refine (is_all _ _ (by omega) (by first | exact Tabs.alloc hT _ | exact Tabs.drewN (Tabs.alloc hT _) _)).mono ?_; rintro e w' ⟨rfl, n, rfl⟩)
              go_ret
              exact ret_of rfl (below_next (below_alloc _ _) (below_drewN _ _))
            · have c6' : (p - 1) % q = 0 := by omega
              have t6 : ((p - 1) % q == 0) = true := by simp; omega
              have t6' : ((p - 1) % q != 0) = false := by simp; omega
              have C6 := Lib.hid c6'
              clear c6 c6'
              by_cases c7 : g < 2
              · have hf : b = false := by rw [HB.out, gvalB_false]; intro h; have := h.g2; omega
                subst hf
                have t7 : decide (g < 2) = true := by simp; omega
                clear c7
                go_enter Tryd.func9, Tryd.ntmps9
                go_wp2_with (go_at_call 29; refine (is_all _ _ (by omega) (by first | exact Tabs.alloc hT _ | exact Tabs.drewN (Tabs.alloc hT _) _)).mono ?_; rintro e w' ⟨rfl, n, rfl⟩)
                go_ret
                exact ret_of rfl (below_next (below_alloc _ _) (below_drewN _ _))
              · have t7 : decide (g < 2) = false := by simp; omega
                have g2 : 2 ≤ g := by omega
                clear c7
                by_cases c8 : p ≤ g
                · have hf : b = false := by rw [HB.out, gvalB_false]; intro h; have := h.gp; omega
                  subst hf
                  have t8 : decide (p ≤ g) = true := by simp; omega
                  clear c8
                  go_enter Tryd.func9, Tryd.ntmps9
                  go_wp2_with (go_at_call 29; refine (is_all _ _ (by omega) (by first | exact Tabs.alloc hT _ | exact Tabs.drewN (Tabs.alloc hT _) _)).mono ?_; rintro e w' ⟨rfl, n, rfl⟩)
                  go_ret
                  exact ret_of rfl (below_next (below_alloc _ _) (below_drewN _ _))
                · have t8 : decide (p ≤ g) = false := by simp; omega
                  have gp : g < p := by omega
                  clear c8
                  have hqp : q ≤ p - 1 := Int.le_of_dvd (by omega) (Int.dvd_of_emod_eq_zero C6.out)
                  clear hp hp2 hq hq2
                  obtain ⟨R, hR⟩ : ∃ R, R = g.toNat ^ q.toNat % p.toNat := ⟨_, rfl⟩
                  have HR := Lib.hid hR
                  clear hR
                  by_cases c9 : R = 1
                  · have t9 : ((R : Int) == 1) = true := by simp; omega
                    have hf : b = true := by rw [HB.out, gvalB_true]; exact ⟨by omega, pm, q3, Q2.out, C6.out, g2, gp, t4, t5, by rw [← HR.out]; exact c9⟩
                    subst hf
                    have C9 := Lib.hid c9
                    clear c9
                    go_enter Tryd.func9, Tryd.ntmps9
                    go_wp2_with (first
                      | (go_at_call 29; refine (is_all _ _ (by omega) (by first | exact Tabs.alloc hT _ | exact Tabs.drewN (Tabs.alloc hT _) _)).mono ?_; rintro e w' ⟨rfl, n, rfl⟩)
                      | (go_at_call 30; refine (wpow_z _ _ _ (by omega) (by omega) (by omega) (by omega) (by omega) _).mono ?_; rintro e w' ⟨rfl, n, rfl⟩; rw [← HR.out]))
                    go_ret
                    exact ret_of rfl (below_next (below_alloc _ _) (below_drewN _ _))
                  · have t9 : ((R : Int) == 1) = false := by simp; omega
                    have hf : b = false := by rw [HB.out, gvalB_false]; intro h; have := h.pw; rw [← HR.out] at this; exact c9 this
                    subst hf
                    clear c9
                    go_enter Tryd.func9, Tryd.ntmps9
                    go_wp2_with (first
                      | (go_at_call 29; refine (is_all _ _ (by omega) (by first | exact Tabs.alloc hT _ | exact Tabs.drewN (Tabs.alloc hT _) _)).mono ?_; rintro e w' ⟨rfl, n, rfl⟩)
                      | (go_at_call 30; refine (wpow_z _ _ _ (by omega) (by omega) (by omega) (by omega) (by omega) _).mono ?_; rintro e w' ⟨rfl, n, rfl⟩; rw [← HR.out]))
                    go_ret
                    exact ret_of rfl (below_next (below_alloc _ _) (below_drewN _ _))
end Go.Proofs.YtogbdnecpdcmiabDoor
/-
  The reference's group.Valid.
-/
namespace Go.Proofs.YtogbdnecpdcmiabDoor
open Go Go.RowKit
theorem bcell {W w1 : World} (hb : Below W.heap.size W w1) : (∀ b o, b < W.heap.size → w1.cell? ⟨b, o, none⟩ = W.cell? ⟨b, o, none⟩) ∧ (∀ b o, b < W.heap.size → w1.frozen? ⟨b, o, none⟩ = W.frozen? ⟨b, o, none⟩) :=
  ⟨fun b o h => hb.cell (p := ⟨b, o, none⟩) h, fun b o h => hb.frozen (p := ⟨b, o, none⟩) h⟩
theorem size_lt (w : World) (o : Obj) : w.heap.size < (w.alloc o).heap.size := by simp
theorem ris_z (p : Int) (h2 : 2 ≤ p) (hm : p < 2305843009213693952) (w : World) : Calls Tryd.prog 31 #[.int .i64 p] w (Ret (.bool (isB p.toNat)) w) := by
  obtain ⟨P, rfl⟩ : ∃ P : Nat, p = P := ⟨p.toNat, by omega⟩
  rw [Int.toNat_natCast]
  exact ris_any P w (by omega) (by omega)
set_option maxRecDepth 100000 in
set_option maxHeartbeats 4000000 in
theorem rgvalid_any (p q g : Int) (w : World) :
    Calls Tryd.prog 11 #[.agg #[.int .i64 p, .int .i64 q, .int .i64 g]] w (Ret (.bool (gvalB p q g)) w) := by
  obtain ⟨b, hb0⟩ : ∃ b, b = gvalB p q g := ⟨_, rfl⟩
  have HB := Lib.hid hb0
  rw [← hb0]
  clear hb0
  by_cases c1 : p < 3
  · have hf : b = false := by rw [HB.out, gvalB_false]; intro h; have := h.p3; omega
    subst hf
    have t1 : decide (p < 3) = true := by simp; omega
    clear c1
    go_enter Tryd.func11, Tryd.ntmps11
    go_wp2
    go_ret
    exact ret_of rfl (below_alloc _ _)
  · have t1 : decide (p < 3) = false := by simp; omega
    have p3 : 3 ≤ p := by omega
    clear c1
    by_cases c2 : 2305843009213693952 ≤ p
    · have hf : b = false := by rw [HB.out, gvalB_false]; intro h; have := h.pm; omega
      subst hf
      have t2 : decide ((2305843009213693952 : Int) ≤ p) = true := by simp; omega
      clear c2
      go_enter Tryd.func11, Tryd.ntmps11
      go_wp2
      go_ret
      exact ret_of rfl (below_alloc _ _)
    · have t2 : decide ((2305843009213693952 : Int) ≤ p) = false := by simp; omega
      have pm : p < 2305843009213693952 := by omega
      clear c2
      by_cases c3 : q < 3
      · have hf : b = false := by rw [HB.out, gvalB_false]; intro h; have := h.q3; omega
        subst hf
        have t3 : decide (q < 3) = true := by simp; omega
        clear c3
        go_enter Tryd.func11, Tryd.ntmps11
        go_wp2
        go_ret
        exact ret_of rfl (below_alloc _ _)
      · have t3 : decide (q < 3) = false := by simp; omega
        have q3 : 3 ≤ q := by omega
        clear c3
        by_cases c4 : q % 2 = 0
        · have hf : b = false := by rw [HB.out, gvalB_false]; intro h; have := h.q2; omega
          subst hf
          have t4 : (q % 2 == 0) = true := by simp; omega
          clear c4
          go_enter Tryd.func11, Tryd.ntmps11
          go_wp2
          go_ret
          exact ret_of rfl (below_alloc _ _)
        · have t4 : (q % 2 == 0) = false := by simp; omega
          have hq2' : q % 2 = 1 := by omega
          have Q2 := Lib.hid hq2'
          clear c4 hq2'
          by_cases c5 : ¬ (p - 1) % q = 0
          · have hf : b = false := by rw [HB.out, gvalB_false]; intro h; exact c5 h.dv
            subst hf
            have t5 : ((p - 1) % q == 0) = false := by simp; omega
            have t5' : ((p - 1) % q != 0) = true := by simp; omega
            go_enter Tryd.func11, Tryd.ntmps11
            go_wp2
            go_ret
            exact ret_of rfl (below_alloc _ _)
          · have c5' : (p - 1) % q = 0 := by omega
            have t5 : ((p - 1) % q == 0) = true := by simp; omega
            have t5' : ((p - 1) % q != 0) = false := by simp; omega
            have C5 := Lib.hid c5'
            clear c5 c5'
            by_cases c6 : g < 2
            · have hf : b = false := by rw [HB.out, gvalB_false]; intro h; have := h.g2; omega
              subst hf
              have t6 : decide (g < 2) = true := by simp; omega
              clear c6
              go_enter Tryd.func11, Tryd.ntmps11
              go_wp2
              go_ret
              exact ret_of rfl (below_alloc _ _)
            · have t6 : decide (g < 2) = false := by simp; omega
              have g2 : 2 ≤ g := by omega
              clear c6
              by_cases c7 : p ≤ g
              · have hf : b = false := by rw [HB.out, gvalB_false]; intro h; have := h.gp; omega
                subst hf
                have t7 : decide (p ≤ g) = true := by simp; omega
                clear c7
                go_enter Tryd.func11, Tryd.ntmps11
                go_wp2
                go_ret
                exact ret_of rfl (below_alloc _ _)
              · have t7 : decide (p ≤ g) = false := by simp; omega
                have gp : g < p := by omega
                clear c7
                have hqp : q ≤ p - 1 := Int.le_of_dvd (by omega) (Int.dvd_of_emod_eq_zero C5.out)
                have hb := below_alloc w (.cells #[.int .i64 p, .int .i64 q, .int .i64 g] 24); have hz := size_lt w (.cells #[.int .i64 p, .int .i64 q, .int .i64 g] 24)
                by_cases c8 : isB p.toNat = false
                · have hf : b = false := by rw [HB.out, gvalB_false]; intro h; rw [h.isp] at c8; exact Bool.noConfusion c8
                  subst hf
                  go_enter Tryd.func11, Tryd.ntmps11
                  go_wp2_with (go_at_call 31; refine (ris_z _ (by omega) (by omega) _).mono ?_; rintro e w' ⟨rfl, hw⟩; have hb := below_next hb hw; obtain ⟨hc, hf⟩ := bcell hw; have hz := Nat.lt_of_lt_of_le hz hw.size; clear hw)
                  go_ret
                  exact ret_of rfl hb
                · have t8 : isB p.toNat = true := by simpa using c8
                  clear c8
                  by_cases c9 : isB q.toNat = false
                  · have hf : b = false := by rw [HB.out, gvalB_false]; intro h; rw [h.isq] at c9; exact Bool.noConfusion c9
                    subst hf
                    go_enter Tryd.func11, Tryd.ntmps11
                    go_wp2_with (go_at_call 31; refine (ris_z _ (by omega) (by omega) _).mono ?_; rintro e w' ⟨rfl, hw⟩; have hb := below_next hb hw; obtain ⟨hc, hf⟩ := bcell hw; have hz := Nat.lt_of_lt_of_le hz hw.size; clear hw)
                    go_ret
                    exact ret_of rfl hb
                  · have t9 : isB q.toNat = true := by simpa using c9
                    clear c9
                    obtain ⟨R, hR⟩ : ∃ R, R = g.toNat ^ q.toNat % p.toNat := ⟨_, rfl⟩
                    have HR := Lib.hid hR
                    clear hR
                    by_cases c10 : R = 1
                    · have t10 : ((R : Int) == 1) = true := by simp; omega
                      have hf : b = true := by rw [HB.out, gvalB_true]; exact ⟨p3, pm, q3, Q2.out, C5.out, g2, gp, t8, t9, by rw [← HR.out]; exact c10⟩
                      subst hf
                      have C10 := Lib.hid c10
                      clear c10
                      go_enter Tryd.func11, Tryd.ntmps11
                      go_wp2_with (first
                        | (go_at_call 31; refine (ris_z _ (by omega) (by omega) _).mono ?_; rintro e w' ⟨rfl, hw⟩; have hb := below_next hb hw; obtain ⟨hc, hf⟩ := bcell hw; have hz := Nat.lt_of_lt_of_le hz hw.size; clear hw)
                        | (go_at_call 32; refine (rpow_z _ _ _ (by omega) (by omega) (by omega) (by omega) (by omega) _).mono ?_; rintro e w' ⟨rfl, n, rfl⟩; rw [← HR.out]))
                      go_ret
                      exact ret_of rfl (below_next hb (below_drewN _ _))
                    · have t10 : ((R : Int) == 1) = false := by simp; omega
                      have hf : b = false := by rw [HB.out, gvalB_false]; intro h; have := h.pw; rw [← HR.out] at this; exact c10 this
                      subst hf
                      clear c10
                      go_enter Tryd.func11, Tryd.ntmps11
                      go_wp2_with (first
                        | (go_at_call 31; refine (ris_z _ (by omega) (by omega) _).mono ?_; rintro e w' ⟨rfl, hw⟩; have hb := below_next hb hw; obtain ⟨hc, hf⟩ := bcell hw; have hz := Nat.lt_of_lt_of_le hz hw.size; clear hw)
                        | (go_at_call 32; refine (rpow_z _ _ _ (by omega) (by omega) (by omega) (by omega) (by omega) _).mono ?_; rintro e w' ⟨rfl, n, rfl⟩; rw [← HR.out]))
                      go_ret
                      exact ret_of rfl (below_next hb (below_drewN _ _))
end Go.Proofs.YtogbdnecpdcmiabDoor
/-
  Elements of a valid group: group.element, Contains, and the reference's Member, Mul, Power.
-/
namespace Go.Proofs.YtogbdnecpdcmiabDoor
open Go Go.RowKit
/-- the group as a value -/
abbrev gV (p q g : Int) : Value := .agg #[.int .i64 p, .int .i64 q, .int .i64 g]
set_option maxRecDepth 100000 in
set_option maxHeartbeats 1000000 in
theorem element_any (p q g x : Int) (w : World) (hG : GSpec p q g) :
    Calls Tryd.prog 68 #[gV p q g, .int .i64 x] w (Ret (.bool (memB p q x)) w) := by
  have p3 := hG.p3; have pm := hG.pm; have q3 := hG.q3; have hqp := hG.qp
  obtain ⟨b, hb0⟩ : ∃ b, b = memB p q x := ⟨_, rfl⟩
  have HB := Lib.hid hb0
  rw [← hb0]
  clear hb0 hG
  by_cases c1 : x < 1
  · have t1 : decide (x < 1) = true := by simp; omega
    have hf : b = false := by rw [HB.out, memB_false]; intro h; have := h.1; omega
    subst hf
    clear c1
    go_enter Tryd.func68, Tryd.ntmps68
    go_wp2
    go_ret
    exact ret_of rfl (below_alloc _ _)
  · have t1 : decide (x < 1) = false := by simp; omega
    have x1 : 1 ≤ x := by omega
    clear c1
    by_cases c2 : p ≤ x
    · have t2 : decide (p ≤ x) = true := by simp; omega
      have hf : b = false := by rw [HB.out, memB_false]; intro h; have := h.2.1; omega
      subst hf
      clear c2
      go_enter Tryd.func68, Tryd.ntmps68
      go_wp2
      go_ret
      exact ret_of rfl (below_alloc _ _)
    · have t2 : decide (p ≤ x) = false := by simp; omega
      have xp : x < p := by omega
      clear c2
      obtain ⟨R, hR⟩ : ∃ R, R = x.toNat ^ q.toNat % p.toNat := ⟨_, rfl⟩
      have HR := Lib.hid hR
      clear hR
      by_cases c3 : R = 1
      · have t3 : ((R : Int) == 1) = true := by simp; omega
        have hf : b = true := by rw [HB.out, memB_true]; exact ⟨x1, xp, by rw [← HR.out]; exact c3⟩
        subst hf
        have C3 := Lib.hid c3
        clear c3
        go_enter Tryd.func68, Tryd.ntmps68
        go_wp2_with (go_at_call 30; refine (wpow_z _ _ _ (by omega) (by omega) (by omega) (by omega) (by omega) _).mono ?_; rintro e w' ⟨rfl, n, rfl⟩; rw [← HR.out])
        go_ret
        exact ret_of rfl (below_next (below_alloc _ _) (below_drewN _ _))
      · have t3 : ((R : Int) == 1) = false := by simp; omega
        have hf : b = false := by rw [HB.out, memB_false]; intro h; have := h.2.2; rw [← HR.out] at this; exact c3 this
        subst hf
        clear c3
        go_enter Tryd.func68, Tryd.ntmps68
        go_wp2_with (go_at_call 30; refine (wpow_z _ _ _ (by omega) (by omega) (by omega) (by omega) (by omega) _).mono ?_; rintro e w' ⟨rfl, n, rfl⟩; rw [← HR.out])
        go_ret
        exact ret_of rfl (below_next (below_alloc _ _) (below_drewN _ _))
set_option maxRecDepth 100000 in
set_option maxHeartbeats 1000000 in
theorem rmember_any (p q g x : Int) (w : World) (hG : GSpec p q g) :
    Calls Tryd.prog 49 #[gV p q g, .int .i64 x] w (Ret (.bool (memB p q x)) w) := by
  have p3 := hG.p3; have pm := hG.pm; have q3 := hG.q3; have hqp := hG.qp
  obtain ⟨b, hb0⟩ : ∃ b, b = memB p q x := ⟨_, rfl⟩
  have HB := Lib.hid hb0
  rw [← hb0]
  clear hb0 hG
  by_cases c1 : x < 1
  · have t1 : decide (1 ≤ x) = false := by simp; omega
    have hf : b = false := by rw [HB.out, memB_false]; intro h; have := h.1; omega
    subst hf
    clear c1
    go_enter Tryd.func49, Tryd.ntmps49
    go_wp2
    go_ret
    exact ret_of rfl (below_alloc _ _)
  · have t1 : decide (1 ≤ x) = true := by simp; omega
    have x1 : 1 ≤ x := by omega
    clear c1
    by_cases c2 : p ≤ x
    · have t2 : decide (x < p) = false := by simp; omega
      have hf : b = false := by rw [HB.out, memB_false]; intro h; have := h.2.1; omega
      subst hf
      clear c2
      go_enter Tryd.func49, Tryd.ntmps49
      go_wp2
      go_ret
      exact ret_of rfl (below_alloc _ _)
    · have t2 : decide (x < p) = true := by simp; omega
      have xp : x < p := by omega
      clear c2
      obtain ⟨R, hR⟩ : ∃ R, R = x.toNat ^ q.toNat % p.toNat := ⟨_, rfl⟩
      have HR := Lib.hid hR
      clear hR
      by_cases c3 : R = 1
      · have t3 : ((R : Int) == 1) = true := by simp; omega
        have hf : b = true := by rw [HB.out, memB_true]; exact ⟨x1, xp, by rw [← HR.out]; exact c3⟩
        subst hf
        have C3 := Lib.hid c3
        clear c3
        go_enter Tryd.func49, Tryd.ntmps49
        go_wp2_with (go_at_call 32; refine (rpow_z _ _ _ (by omega) (by omega) (by omega) (by omega) (by omega) _).mono ?_; rintro e w' ⟨rfl, n, rfl⟩; rw [← HR.out])
        go_ret
        exact ret_of rfl (below_next (below_alloc _ _) (below_drewN _ _))
      · have t3 : ((R : Int) == 1) = false := by simp; omega
        have hf : b = false := by rw [HB.out, memB_false]; intro h; have := h.2.2; rw [← HR.out] at this; exact c3 this
        subst hf
        clear c3
        go_enter Tryd.func49, Tryd.ntmps49
        go_wp2_with (go_at_call 32; refine (rpow_z _ _ _ (by omega) (by omega) (by omega) (by omega) (by omega) _).mono ?_; rintro e w' ⟨rfl, n, rfl⟩; rw [← HR.out])
        go_ret
        exact ret_of rfl (below_next (below_alloc _ _) (below_drewN _ _))
/-- group.Contains, of a valid group -/
theorem contains_any (p q g x : Int) (w : World) (hG : GSpec p q g) (hT : Tabs w) :
    Calls Tryd.prog 64 #[gV p q g, .int .i64 x] w (Ret (.bool (memB p q x)) w) := by
  have p3 := hG.p3; have pm := hG.pm; have q3 := hG.q3; have hqp := hG.qp
  have hv : gvalB p q g = true := gvalB_true.2 hG
  have HG := Lib.hid hG
  have hb := below_alloc w (.cells #[.int .i64 p, .int .i64 q, .int .i64 g] 24)
  have hz := size_lt w (.cells #[.int .i64 p, .int .i64 q, .int .i64 g] 24)
  clear hG
  go_enter Tryd.func64, Tryd.ntmps64
  go_wp2_with (first
    | (go_at_call 9; refine (gvalid_any _ _ _ _ (by omega) (by omega) (by omega) (by omega) (hT.alloc _)).mono ?_; rintro e w' ⟨rfl, hw⟩; have hb := below_next hb hw; obtain ⟨hc, hf⟩ := bcell hw; have hz := Nat.lt_of_lt_of_le hz hw.size; clear hw)
    | (go_at_call 68; refine (element_any _ _ _ _ _ HG.out).mono ?_; rintro e w' ⟨rfl, hw⟩; have hb := below_next hb hw; clear hw))
  go_ret
  exact ret_of rfl hb
end Go.Proofs.YtogbdnecpdcmiabDoor
/-
  The reference's Mul and Power of a valid group; group.check and group.Power.
-/
namespace Go.Proofs.YtogbdnecpdcmiabDoor
open Go Go.RowKit
theorem rmul_z (a b m : Int) (ha0 : 0 ≤ a) (ha : a < m) (hb0 : 0 ≤ b) (hb : b < m) (hm : m < 2305843009213693952) (w : World) :
    Calls Tryd.prog 50 #[.int .i64 a, .int .i64 b, .int .i64 m] w (RetQ (.int .i64 (a.toNat * b.toNat % m.toNat : Nat)) w) := by
  obtain ⟨A, rfl⟩ : ∃ A : Nat, a = A := ⟨a.toNat, by omega⟩
  obtain ⟨B, rfl⟩ : ∃ B : Nat, b = B := ⟨b.toNat, by omega⟩
  obtain ⟨M, rfl⟩ : ∃ M : Nat, m = M := ⟨m.toNat, by omega⟩
  simp only [Int.toNat_natCast]
  exact rmul_any A B M (by omega) (by omega) (by omega) w
theorem wMul_z (a b m : Int) (ha0 : 0 ≤ a) (ha : a < m) (hb0 : 0 ≤ b) (hb : b < m) (hm : m < 2305843009213693952) (w : World) :
    Calls Tryd.prog 18 #[.int .i64 a, .int .i64 b, .int .i64 m] w (RetQ (.tuple #[.int .i64 (a.toNat * b.toNat % m.toNat : Nat), .int .i64 0]) w) := by
  obtain ⟨A, rfl⟩ : ∃ A : Nat, a = A := ⟨a.toNat, by omega⟩
  obtain ⟨B, rfl⟩ : ∃ B : Nat, b = B := ⟨b.toNat, by omega⟩
  obtain ⟨M, rfl⟩ : ∃ M : Nat, m = M := ⟨m.toNat, by omega⟩
  simp only [Int.toNat_natCast]
  exact wMul_any A B M (by omega) (by omega) (by omega) w
theorem rreduce_z (a m : Int) (h1 : 1 ≤ m) (hm : m < 2305843009213693952) (w : World) :
    Calls Tryd.prog 17 #[.int .i64 a, .int .i64 m] w (RetQ (.int .i64 (a % m)) w) := by
  obtain ⟨M, rfl⟩ : ∃ M : Nat, m = M := ⟨m.toNat, by omega⟩
  exact rreduce_any a M (by omega) (by omega) w
theorem wreduce_z (a m : Int) (h1 : 1 ≤ m) (hm : m < 2305843009213693952) (w : World) :
    Calls Tryd.prog 46 #[.int .i64 a, .int .i64 m] w (RetQ (.tuple #[.int .i64 (a % m), .int .i64 0]) w) := by
  obtain ⟨M, rfl⟩ : ∃ M : Nat, m = M := ⟨m.toNat, by omega⟩
  exact wreduce_any a M (by omega) (by omega) w
set_option maxRecDepth 100000 in
set_option maxHeartbeats 1000000 in
theorem rgpow_any (p q g a e : Int) (w : World) (hG : GSpec p q g) (ha0 : 0 ≤ a) (ha : a < p) :
    Calls Tryd.prog 22 #[gV p q g, .int .i64 a, .int .i64 e] w (Ret (.int .i64 (a.toNat ^ (e % q).toNat % p.toNat : Nat)) w) := by
  have p3 := hG.p3; have pm := hG.pm; have q3 := hG.q3; have hqp := hG.qp
  have e0 := Int.emod_nonneg e (show q ≠ 0 by omega)
  have e1 := Int.emod_lt_of_pos e (show 0 < q by omega)
  obtain ⟨R, hR⟩ : ∃ R, R = a.toNat ^ (e % q).toNat % p.toNat := ⟨_, rfl⟩
  have HR := Lib.hid hR
  rw [← hR]
  clear hR hG
  go_enter Tryd.func22, Tryd.ntmps22
  go_wp2
  go_quiet (first
    | (go_at_call 17; exact calls_quiet (rreduce_z e q (by omega) (by omega) _))
    | (go_at_call 32; exact calls_quiet (rpow_z a (e % q) p ha0 ha e0 (by omega) pm _)))
  go_wp2
  go_ret
  exact ret_of (val_int (by rw [HR.out])) (below_next (below_alloc _ _) (below_drewN _ _))
end Go.Proofs.YtogbdnecpdcmiabDoor
/-
  group.check and group.Power, of a valid group and its elements.
-/
namespace Go.Proofs.YtogbdnecpdcmiabDoor
open Go Go.RowKit
set_option maxRecDepth 100000 in
set_option maxHeartbeats 1000000 in
theorem gcheck_any (p q g : Int) (xs : List Int) (B : Nat) (w : World) (hG : GSpec p q g) (hT : Tabs w) (hB : B < w.heap.size) (n : Nat) (hn : xs.length = n) (hl : n ≤ 4) (hx : ∀ x ∈ xs, memB p q x = true)
    (hc : ∀ j, j < n → w.cell? ⟨B, j, none⟩ = some (.int .i64 (xs.getD j 0))) :
    Calls Tryd.prog 45 #[gV p q g, .slice (some ⟨B, 0, none⟩) n n] w (Ret (.int .i64 0) w) := by
  have p3 := hG.p3; have pm := hG.pm; have q3 := hG.q3; have hqp := hG.qp
  have hv : gvalB p q g = true := gvalB_true.2 hG
  have HG := Lib.hid hG; have HX := Lib.hid hx; have HC := Lib.hid hc; have HN := Lib.hid hn
  have hb := below_alloc w (.cells #[.int .i64 p, .int .i64 q, .int .i64 g] 24)
  have hz := size_lt w (.cells #[.int .i64 p, .int .i64 q, .int .i64 g] 24)
  clear hG hx hc hn
  go_enter Tryd.func45, Tryd.ntmps45
  go_wp2_with (go_at_call 9; refine (gvalid_any _ _ _ _ (by omega) (by omega) (by omega) (by omega) (hT.alloc _)).mono ?_; rintro e w' ⟨rfl, hw⟩; have hb := below_next hb hw; obtain ⟨hc, hf⟩ := bcell hw; have hz := Nat.lt_of_lt_of_le hz hw.size; clear hw)
  obtain ⟨W1, hW1⟩ : ∃ W1, W1 = w' := ⟨_, rfl⟩
  subst hW1
  go_loopw [6, 12] (fun _ vi wr => ∃ i : Nat, vi = .int .i64 i ∧ i ≤ n ∧ Below W1.heap.size W1 wr) (fun _ vi _ => n - (intOf vi).toNat)
  case atStart => exact ⟨0, rfl, by omega, Below.refl _ _⟩
  case round =>
    obtain ⟨i, rfl, hi, hbr⟩ := hrel
    obtain ⟨hc2, hf2⟩ := bcell hbr
    by_cases hlt : i < n
    · have hxm : memB p q (xs.getD i 0) = true := HX.out _ (by
        have h := HN.out
        rw [List.getD_eq_getElem?_getD, List.getElem?_eq_getElem (by omega)]
        exact List.getElem_mem _)
      have hxc : wr.cell? ⟨B, i, none⟩ = some (.int .i64 (xs.getD i 0)) := by
        rw [(below_next hb hbr).cell (p := ⟨B, i, none⟩) hB]; exact HC.out i hlt
      obtain ⟨x, hx⟩ : ∃ x, x = xs.getD i 0 := ⟨_, rfl⟩
      rw [← hx] at hxm hxc
      have hzr := Nat.lt_of_lt_of_le hz hbr.size
      have HXX := Lib.hid hx
      clear hx
      go_wp2_with (go_at_call 68; refine (element_any _ _ _ _ _ HG.out).mono ?_; rintro e w' ⟨rfl, hw⟩; have hbr := below_next hbr hw; clear hw)
      go_roundw
      case rel => exact ⟨i + 1, by go_num, by omega, hbr⟩
      case measure => simp [intOf]; omega
    · have h12 : i = n := by omega
      subst h12
      go_wp2
      go_ret
      exact ret_of rfl (below_next hb hbr)
theorem mem_pos {p q x : Int} (h : memB p q x = true) : 1 ≤ x ∧ x < p := by have := memB_true.1 h; exact ⟨this.1, this.2.1⟩
set_option maxRecDepth 100000 in
set_option maxHeartbeats 1000000 in
theorem gpower_any (p q g a k : Int) (w : World) (hG : GSpec p q g) (hT : Tabs w) (ha : memB p q a = true) :
    Calls Tryd.prog 26 #[gV p q g, .int .i64 a, .int .i64 k] w (Ret (.tuple #[.int .i64 (a.toNat ^ (k % q).toNat % p.toNat : Nat), .int .i64 0]) w) := by
  have p3 := hG.p3; have pm := hG.pm; have q3 := hG.q3; have hqp := hG.qp
  have e0 := Int.emod_nonneg k (show q ≠ 0 by omega)
  have e1 := Int.emod_lt_of_pos k (show 0 < q by omega)
  obtain ⟨a1, ap⟩ := mem_pos ha
  have HA := Lib.hid ha
  have HG := Lib.hid hG
  obtain ⟨R, hR⟩ : ∃ R, R = a.toNat ^ (k % q).toNat % p.toNat := ⟨_, rfl⟩
  have HR := Lib.hid hR
  rw [← hR]
  clear hR hG ha
  have hb := below_next (below_alloc w (.cells #[.int .i64 p, .int .i64 q, .int .i64 g] 24)) (below_alloc _ (.cells #[.int .i64 a] 3))
  have hz : w.heap.size < ((w.alloc (.cells #[.int .i64 p, .int .i64 q, .int .i64 g] 24)).alloc (.cells #[.int .i64 a] 3)).heap.size := by simp; omega
  go_enter Tryd.func26, Tryd.ntmps26
  go_wp2_with (first
    | (go_at_call 45; refine (gcheck_any p q g [a] (w.heap.size + 1) _ HG.out ((hT.alloc _).alloc _) (by simp) 1 rfl (by omega) (by intro x hx; simp at hx; rw [hx]; exact HA.out) (by intro j hj; obtain rfl : j = 0 := (by omega); simp)).mono ?_; rintro e w' ⟨rfl, hw⟩; have hb := below_next hb hw; obtain ⟨hc, hf⟩ := bcell hw; have hz := Nat.lt_of_lt_of_le hz hw.size; clear hw)
    | (go_at_call 46; refine (wreduce_z _ _ (by omega) (by omega) _).mono ?_; rintro e w' ⟨rfl, n, rfl⟩)
    | (go_at_call 30; refine (wpow_z _ _ _ (by omega) ap e0 (by omega) pm _).mono ?_; rintro e w' ⟨rfl, n, rfl⟩; rw [← HR.out]))
  go_ret2
  exact ret_of rfl (below_next hb (below_drewN _ _))
end Go.Proofs.YtogbdnecpdcmiabDoor
/-
  Blocks that a call lays and keeps; powers and products of elements.
-/
namespace Go.Proofs.YtogbdnecpdcmiabDoor
open Go Go.RowKit
theorem box_at {w w' : World} {cs : Array Value} {t : TypeId} {fr : Nat × Nat} (hB : Below (w.alloc (.cells cs t fr)).heap.size (w.alloc (.cells cs t fr)) w') (j : Nat) : w'.cell? ⟨w.heap.size, j, none⟩ = cs[j]? := by
  rw [hB.cell (p := ⟨w.heap.size, j, none⟩) (size_lt _ _), cell_of_row _ w.heap.size j cs _ _ (heap_alloc_new _ _)]
theorem box_keep {W w' : World} {b : Nat} {f : Nat → Option Value} (h : ∀ j, W.cell? ⟨b, j, none⟩ = f j) (hb : b < W.heap.size) (k : Below W.heap.size W w') (j : Nat) : w'.cell? ⟨b, j, none⟩ = f j := by
  rw [k.cell (p := ⟨b, j, none⟩) hb]; exact h j
theorem two_boxes (w : World) (cs ds : Array Value) (t u : TypeId) : ∃ W2, W2 = (w.alloc (.cells cs t)).alloc (.cells ds u) ∧ (∀ j, W2.cell? ⟨w.heap.size, j, none⟩ = cs[j]?) ∧ (∀ j, W2.cell? ⟨w.heap.size + 1, j, none⟩ = ds[j]?) ∧
    w.heap.size < W2.heap.size ∧ w.heap.size + 1 < W2.heap.size ∧ Below w.heap.size w W2 := by
  refine ⟨_, rfl, fun j => ?_, fun j => ?_, ?_, ?_, below_next (below_alloc _ _) (below_alloc _ _)⟩
  · exact cell_of_row _ w.heap.size j cs _ _ (heap_alloc2_old _ _ _)
  · exact cell_of_row _ (w.heap.size + 1) j ds _ _ (heap_alloc2_new _ _ _)
  · simp; omega
  · simp
theorem keep2 {W w' : World} {b c : Nat} {f k : Nat → Option Value} (h : ∀ j, W.cell? ⟨b, j, none⟩ = f j) (hb : b < W.heap.size) (h2 : ∀ j, W.cell? ⟨c, j, none⟩ = k j) (hc : c < W.heap.size) (hk : Below W.heap.size W w') :
    (∀ j, w'.cell? ⟨b, j, none⟩ = f j) ∧ (∀ j, w'.cell? ⟨c, j, none⟩ = k j) ∧ Below W.heap.size W w' := ⟨box_keep h hb hk, box_keep h2 hc hk, hk⟩
theorem next_box {w w' : World} {cs : Array Value} {t : TypeId} {fr : Nat × Nat} (hB0 : Below (w.alloc (.cells cs t fr)).heap.size (w.alloc (.cells cs t fr)) w') (hT : Tabs w') (ds : Array Value) (u : TypeId) :
    ∃ W2, W2 = w'.alloc (.cells ds u) ∧ (∀ j, W2.cell? ⟨w.heap.size, j, none⟩ = cs[j]?) ∧ (∀ j, W2.cell? ⟨w'.heap.size, j, none⟩ = ds[j]?) ∧ w.heap.size < W2.heap.size ∧ w'.heap.size < W2.heap.size ∧ Below w.heap.size w W2 ∧ Tabs W2 := by
  have hz := Nat.lt_of_lt_of_le (size_lt w (.cells cs t fr)) hB0.size
  refine ⟨_, rfl, fun j => ?_, fun j => ?_, ?_, size_lt _ _, below_next (below_next (below_alloc _ _) hB0) (below_alloc _ _), hT.alloc _⟩
  · rw [(below_alloc w' (.cells ds u)).cell (p := ⟨w.heap.size, j, none⟩) hz]; exact box_at hB0 j
  · exact cell_of_row _ w'.heap.size j ds _ _ (heap_alloc_new _ _)
  · exact Nat.lt_trans hz (size_lt _ _)
theorem below_held {w W w' : World} {P Q : Prop} (hb : Below w.heap.size w W) (hh : P ∧ Q ∧ Below W.heap.size W w') : Below w.heap.size w w' := below_next hb hh.2.2
theorem keep3 {W w0 w' : World} {b c : Nat} {f k : Nat → Option Value} {P Q : Prop} (h : ∀ j, W.cell? ⟨b, j, none⟩ = f j) (hb : b < W.heap.size) (h2 : ∀ j, W.cell? ⟨c, j, none⟩ = k j) (hc : c < W.heap.size) (hw : Below w0.heap.size w0 w')
    (hh : P ∧ Q ∧ Below W.heap.size W w0) : (∀ j, w'.cell? ⟨b, j, none⟩ = f j) ∧ (∀ j, w'.cell? ⟨c, j, none⟩ = k j) ∧ Below W.heap.size W w' := keep2 h hb h2 hc (below_next hh.2.2 hw)
theorem keep1 {W w' : World} {b : Nat} {f : Nat → Option Value} (h : ∀ j, W.cell? ⟨b, j, none⟩ = f j) (hb : b < W.heap.size) (hk : Below W.heap.size W w') :
    (∀ j, w'.cell? ⟨b, j, none⟩ = f j) ∧ Below W.heap.size W w' := ⟨box_keep h hb hk, hk⟩
theorem keep1n {W w0 w' : World} {b : Nat} {f : Nat → Option Value} {P : Prop} (h : ∀ j, W.cell? ⟨b, j, none⟩ = f j) (hb : b < W.heap.size) (hw : Below w0.heap.size w0 w') (hh : P ∧ Below W.heap.size W w0) :
    (∀ j, w'.cell? ⟨b, j, none⟩ = f j) ∧ Below W.heap.size W w' := keep1 h hb (below_next hh.2 hw)
theorem below_held1 {w W w' : World} {P : Prop} (hb : Below w.heap.size w W) (hh : P ∧ Below W.heap.size W w') : Below w.heap.size w w' := below_next hb hh.2
theorem one_box (w : World) (cs : Array Value) (t : TypeId) : ∃ W2, W2 = w.alloc (.cells cs t) ∧ (∀ j, W2.cell? ⟨w.heap.size, j, none⟩ = cs[j]?) ∧ w.heap.size < W2.heap.size ∧ Below w.heap.size w W2 :=
  ⟨_, rfl, fun j => cell_of_row _ w.heap.size j cs _ _ (heap_alloc_new _ _), size_lt _ _, below_alloc _ _⟩
/-- powers and products of elements are elements -/
theorem mem_of_pow {p q : Int} {a : Nat} (p3 : 3 ≤ p) (h : a ^ q.toNat % p.toNat = 1) (q0 : 1 ≤ q) : memB p q ((a % p.toNat : Nat) : Int) = true := by
  have h1 : (a % p.toNat) ^ q.toNat % p.toNat = 1 := by rw [← Nat.pow_mod]; exact h
  refine memB_true.2 ⟨?_, ?_, by rw [Int.toNat_natCast]; exact h1⟩
  · rcases Nat.eq_zero_or_pos (a % p.toNat) with h0 | h0
    · rw [h0, Nat.zero_pow (by omega), Nat.zero_mod] at h1; omega
    · omega
  · have := Nat.mod_lt a (show 0 < p.toNat by omega)
    omega
theorem pow_one_pow {p q a : Nat} (p2 : 2 ≤ p) (h : a ^ q % p = 1) (k : Nat) : (a ^ k) ^ q % p = 1 := by
  rw [← Nat.pow_mul, Nat.mul_comm, Nat.pow_mul, Nat.pow_mod, h, Nat.one_pow, Nat.mod_eq_of_lt (by omega)]
theorem mul_one_pow {p q a b : Nat} (p2 : 2 ≤ p) (h : a ^ q % p = 1) (k : b ^ q % p = 1) : (a * b) ^ q % p = 1 := by
  rw [Nat.mul_pow, Nat.mul_mod, h, k, Nat.one_mul, Nat.mod_eq_of_lt (by omega)]
theorem mod_pow_one {p q a : Nat} (h : a ^ q % p = 1) : (a % p) ^ q % p = 1 := by rw [← Nat.pow_mod]; exact h
end Go.Proofs.YtogbdnecpdcmiabDoor
