/-
  The law PedersenBinds, walked.
-/
import Derived.Test.YtogbdnecpdcmiaaDoorP2
import Derived.Test.YtogbdnecpdcmiaaDoorJ3
/-
  The law PedersenBinds returns true for all arguments.
-/
namespace Go.Proofs.YtogbdnecpdcmiaaDoor
open Go Go.RowKit
theorem slAt_next4 (W : World) (a b c d : Int) : SlAt (W.alloc (.cells #[.int .i64 a, .int .i64 b, .int .i64 c, .int .i64 d] 3)) W.heap.size [a, b, c, d] :=
  slAt_four (size_lt W _) (fun j => cell_of_row _ W.heap.size j _ _ _ (heap_alloc_new W _))
/-- the box behind a store to its last cell -/
theorem box_last {W : World} {B : Nat} {p q g g1 g2 h x : Int} (hc : ∀ j, W.cell? ⟨B, j, none⟩ = #[Value.int .i64 p, .int .i64 q, .int .i64 g, .int .i64 g1, .int .i64 g2, .int .i64 h][j]?) (j : Nat) :
    (W.setCell ⟨B, 5, none⟩ (.int .i64 x)).cell? ⟨B, j, none⟩ = #[Value.int .i64 p, .int .i64 q, .int .i64 g, .int .i64 g1, .int .i64 g2, .int .i64 x][j]? := by
  by_cases e : j = 5
  · subst e
    rw [World.cell?_setCell_same W ⟨B, 5, none⟩ (.int .i64 x) (hc 5)]
    rfl
  · rw [World.cell?_setCell_other W ⟨B, 5, none⟩ ⟨B, j, none⟩ _ (by intro h5; injection h5 with _ h6; exact e h6.symm), hc j]
    by_cases h4 : j < 5
    · obtain rfl | rfl | rfl | rfl | rfl : j = 0 ∨ j = 1 ∨ j = 2 ∨ j = 3 ∨ j = 4 := by omega
      all_goals rfl
    · rw [Array.getElem?_eq_none (by simp; omega), Array.getElem?_eq_none (by simp; omega)]
section
variable (p q g g1 g2 h log m r n : Int) (w : World)
set_option maxRecDepth 100000 in
set_option maxHeartbeats 4000000 in
/-- where nothing is asked -/
theorem lawb_quit (hT : Tabs w) (hc : bvalB p q g g1 g2 h = false ∨ (BSpec p q g g1 g2 h ∧ [log, m, r, n].all (scB q) = false) ∨ (BSpec p q g g1 g2 h ∧ [log, m, r, n].all (scB q) = true ∧ log = 0)) :
    Calls Tryd.prog 7 #[bV p q g g1 g2 h, .int .i64 log, .int .i64 m, .int .i64 r, .int .i64 n] w (Ret (.bool true) w) := by
  obtain ⟨W2, hW2, hB1, l1, hb⟩ := one_box w #[.int .i64 p, .int .i64 q, .int .i64 g, .int .i64 g1, .int .i64 g2, .int .i64 h] 25
  have hT2 : Tabs W2 := by rw [hW2]; exact hT.alloc _
  clear hT
  go_enter Tryd.func7, Tryd.ntmps7
  go_upto_region 1 with (fail)
  rw [← hW2]
  obtain ⟨B1, hB1'⟩ : ∃ B, B = w.heap.size := ⟨_, rfl⟩
  rw [← hB1'] at hB1 l1 ⊢
  have hk : Below W2.heap.size W2 W2 := Below.refl _ _
  have c1 := hB1
  have HB1 := Lib.hid hB1; have HT := Lib.hid hT2; have hT := hT2
  clear hW2 hB1' hB1 hT2
  rcases hc with h0 | ⟨hS, h0⟩ | ⟨hS, h1, rfl⟩
  · have HV := Lib.hid h0
    clear h0
    go_wp2_with (first
      | (go_at_call 22; refine (awake15_any _ (by assumption)).mono ?_; rintro e w' ⟨rfl, hw⟩; have hk := below_next hk hw; have c1 := box_keep HB1.out l1 hk; have hT := HT.out.below hk; clear hw)
      | (go_at_call 24; refine (rbvalid_any _ _ _ _ _ _ _).mono ?_; rintro e w' ⟨rfl, hw⟩; rw [HV.out]; have hk := below_next hk hw; have c1 := box_keep HB1.out l1 hk; have hT := HT.out.below hk; clear hw))
    go_ret
    exact ret_of rfl (below_next hb hk)
  · have HV := Lib.hid (bvalB_true.2 hS)
    have H0 := Lib.hid h0
    clear h0 hS
    go_wp2_with (first
      | (go_at_call 22; refine (awake15_any _ (by assumption)).mono ?_; rintro e w' ⟨rfl, hw⟩; have hk := below_next hk hw; have c1 := box_keep HB1.out l1 hk; have hT := HT.out.below hk; clear hw)
      | (go_at_call 24; refine (rbvalid_any _ _ _ _ _ _ _).mono ?_; rintro e w' ⟨rfl, hw⟩; rw [HV.out]; have hk := below_next hk hw; have c1 := box_keep HB1.out l1 hk; have hT := HT.out.below hk; clear hw)
      | (go_at_call 25; refine (rscalars_any p q g [log, m, r, n] 4 _ _ rfl (by omega) (slAt_next4 _ log m r n)).mono ?_; rintro e w' ⟨rfl, hw⟩; rw [H0.out]; have hk := below_next (below_next hk (below_alloc _ _)) hw; have c1 := box_keep HB1.out l1 hk; have hT := HT.out.below hk; clear hw))
    go_ret
    exact ret_of rfl (below_next hb hk)
  · have HV := Lib.hid (bvalB_true.2 hS)
    have H1 := Lib.hid h1
    clear h1 hS
    go_wp2_with (first
      | (go_at_call 22; refine (awake15_any _ (by assumption)).mono ?_; rintro e w' ⟨rfl, hw⟩; have hk := below_next hk hw; have c1 := box_keep HB1.out l1 hk; have hT := HT.out.below hk; clear hw)
      | (go_at_call 24; refine (rbvalid_any _ _ _ _ _ _ _).mono ?_; rintro e w' ⟨rfl, hw⟩; rw [HV.out]; have hk := below_next hk hw; have c1 := box_keep HB1.out l1 hk; have hT := HT.out.below hk; clear hw)
      | (go_at_call 25; refine (rscalars_any p q g [0, m, r, n] 4 _ _ rfl (by omega) (slAt_next4 _ 0 m r n)).mono ?_; rintro e w' ⟨rfl, hw⟩; rw [H1.out]; have hk := below_next (below_next hk (below_alloc _ _)) hw; have c1 := box_keep HB1.out l1 hk; have hT := HT.out.below hk; clear hw))
    go_ret
    exact ret_of rfl (below_next hb hk)
end
theorem free_new (w : World) (cs : Array Value) (t : TypeId) (i : Nat) : (w.alloc (.cells cs t)).frozen? ⟨w.heap.size, i, none⟩ = false := by
  have h := heap_alloc_new w (.cells cs t)
  simp only [World.frozen?, h]
  simp
section
variable (p q g g1 g2 h log m r n : Int) (w : World)
set_option maxRecDepth 100000 in
set_option maxHeartbeats 8000000 in
theorem lawb_walk (R C S D I : Nat) (hS : BSpec p q g g1 g2 h) (hT : Tabs w) (hx : [log, m, r, n].all (scB q) = true) (hl : log ≠ 0) (hR : R = g.toNat ^ (log % q).toNat % p.toNat) (hS' : BSpec p q g g1 g2 R) (hSq : scB q S = true)
    (hcom : ∀ w, Tabs w → Calls Tryd.prog 31 #[bV p q g g1 g2 R, .int .i64 m, .int .i64 r] w (Ret (.tuple #[.int .i64 C, .int .i64 0]) w))
    (hoth : ∀ w, Tabs w → Calls Tryd.prog 23 #[bV p q g g1 g2 R, .int .i64 m, .int .i64 r, .int .i64 n, .int .i64 log] w (Ret (.tuple #[.int .i64 S, .int .i64 0]) w))
    (hop : ∀ w, Tabs w → Calls Tryd.prog 29 #[bV p q g g1 g2 R, .int .i64 C, .int .i64 n, .int .i64 S] w (Ret (.bool true) w))
    (hend : ((S : Int) = r ∧ m = n) ∨ ((S : Int) ≠ r ∧ m ≠ n ∧ (D : Int) = ((S : Int) - r) % q ∧ I < q.toNat ∧ (((m - n) % q).toNat * I % q.toNat : Nat) = log ∧
      (∀ w, Calls Tryd.prog 32 #[.int .i64 D, .int .i64 q] w (RetQ (.tuple #[.int .i64 I, .int .i64 0]) w)))) :
    Calls Tryd.prog 7 #[bV p q g g1 g2 h, .int .i64 log, .int .i64 m, .int .i64 r, .int .i64 n] w (Ret (.bool true) w) := by
  have p3 := hS.G.p3; have pm := hS.G.pm; have q3 := hS.G.q3; have hqp := hS.G.qp
  have gp' := hS.G.gp
  have hgm : memB p q g = true := memB_true.2 ⟨by have := hS.G.g2; omega, hS.G.gp, hS.G.pw⟩
  have hx' := hx
  simp at hx'
  obtain ⟨sl, sm, sr, sn⟩ := hx'
  obtain ⟨L0, Lq⟩ := scB_true.1 sl
  obtain ⟨M0, Mq⟩ := scB_true.1 sm
  obtain ⟨R0, Rq⟩ := scB_true.1 sr
  obtain ⟨N0, Nq⟩ := scB_true.1 sn
  obtain ⟨S0, Sq⟩ := scB_true.1 hSq
  have t0 : (log == 0) = false := by simp; exact hl
  obtain ⟨W2, hW2, hB1, l1, hb⟩ := one_box w #[.int .i64 p, .int .i64 q, .int .i64 g, .int .i64 g1, .int .i64 g2, .int .i64 h] 25
  have hT2 : Tabs W2 := by rw [hW2]; exact hT.alloc _
  have f2 : W2.frozen? ⟨w.heap.size, 5, none⟩ = false := by rw [hW2]; exact free_new w _ _ _
  have HT0 := Lib.hid hT
  have HV := Lib.hid (bvalB_true.2 hS); have HG := Lib.hid hS.G; have HX := Lib.hid hx
  have HR := Lib.hid hR; have HV' := Lib.hid (bvalB_true.2 hS'); have HSQ := Lib.hid hSq; have HCOM := Lib.hid hcom; have HOTH := Lib.hid hoth; have HOP := Lib.hid hop; have HGM := Lib.hid hgm
  clear hT hx hl hR hS' hSq hcom hoth hop hgm sl sm sr sn hS
  go_enter Tryd.func7, Tryd.ntmps7
  go_upto_region 1 with (fail)
  rw [← hW2]
  obtain ⟨B1, hB1'⟩ : ∃ B, B = w.heap.size := ⟨_, rfl⟩
  rw [← hB1'] at hB1 l1 f2 ⊢
  have hk : Below W2.heap.size W2 W2 := Below.refl _ _
  have c1 := hB1
  have HB1 := Lib.hid hB1; have HT := Lib.hid hT2; have hT := hT2; have HBB := Lib.hid hB1'
  clear hW2 hB1' hB1 hT2
  go_upto_region 6 with (first
    | (go_at_call 22; refine (awake15_any _ (by assumption)).mono ?_; rintro e w' ⟨rfl, hw⟩; have hk := below_next hk hw; have c1 := box_keep HB1.out l1 hk; have hT := HT.out.below hk; clear hw)
    | (go_at_call 24; refine (rbvalid_any _ _ _ _ _ _ _).mono ?_; rintro e w' ⟨rfl, hw⟩; rw [HV.out]; have hk := below_next hk hw; have c1 := box_keep HB1.out l1 hk; have hT := HT.out.below hk; clear hw)
    | (go_at_call 25; refine (rscalars_any p q g [log, m, r, n] 4 _ _ rfl (by omega) (slAt_next4 _ log m r n)).mono ?_; rintro e w' ⟨rfl, hw⟩; rw [HX.out]; have hk := below_next (below_next hk (below_alloc _ _)) hw; have c1 := box_keep HB1.out l1 hk; have hT := HT.out.below hk; clear hw)
    | (go_at_call 30; refine (gpower_any _ _ _ _ _ _ HG.out (by assumption) HGM.out).mono ?_; rintro e w' ⟨rfl, hw⟩; rw [← HR.out]; have hk := below_next hk hw; have c1 := box_keep HB1.out l1 hk; have hT := HT.out.below hk; clear hw))
  have f3 : w'.frozen? ⟨B1, 5, none⟩ = false := by rw [hk.frozen (p := ⟨B1, 5, none⟩) l1]; exact f2
  clear hT
  go_upto_region 7 with (fail)
  obtain ⟨W4, hW4⟩ : ∃ W4, W4 = w'.setCell ⟨B1, 5, none⟩ (.int .i64 (R : Int)) := ⟨_, rfl⟩
  rw [← hW4]
  have d1 : ∀ j, W4.cell? ⟨B1, j, none⟩ = #[Value.int .i64 p, .int .i64 q, .int .i64 g, .int .i64 g1, .int .i64 g2, .int .i64 R][j]? := by rw [hW4]; exact box_last c1
  have hb4 : Below w.heap.size w W4 := by rw [hW4]; exact (below_next hb hk).setCell (by show w.heap.size ≤ B1; rw [HBB.out]; exact Nat.le_refl _) _
  have l4 : B1 < W4.heap.size := by rw [hW4]; simp [World.setCell]; exact Nat.lt_of_lt_of_le l1 hk.size
  have hT4 := HT0.out.below hb4
  have HD1 := Lib.hid d1; have HT4 := Lib.hid hT4
  have hT := hT4
  have hk4 : Below W4.heap.size W4 W4 := Below.refl _ _
  have c1 := d1
  clear d1 hT4 hW4 hk f2 f3 l1 hb
  rcases hend with ⟨e1, e2⟩ | ⟨e1, e2, hD, hI, hfin, hinv⟩
  · subst e2
    have t1 : ((S : Int) == r) = true := by simp; exact e1
    have t2 : (m == m) = true := by simp
    clear e1
    go_wp2_with (first
      | (go_at_call 24; refine (rbvalid_any _ _ _ _ _ _ _).mono ?_; rintro e w' ⟨rfl, hw⟩; rw [HV'.out]; have hk4 := below_next hk4 hw; have c1 := box_keep HD1.out l4 hk4; have hT := HT4.out.below hk4; clear hw)
      | (go_at_call 31; refine (HCOM.out _ (by assumption)).mono ?_; rintro e w' ⟨rfl, hw⟩; have hk4 := below_next hk4 hw; have c1 := box_keep HD1.out l4 hk4; have hT := HT4.out.below hk4; clear hw)
      | (go_at_call 23; refine (HOTH.out _ (by assumption)).mono ?_; rintro e w' ⟨rfl, hw⟩; have hk4 := below_next hk4 hw; have c1 := box_keep HD1.out l4 hk4; have hT := HT4.out.below hk4; clear hw)
      | (go_at_call 28; refine (rscalar15_any _ _ _ _ _).mono ?_; rintro e w' ⟨rfl, hw⟩; rw [HSQ.out]; have hk4 := below_next hk4 hw; have c1 := box_keep HD1.out l4 hk4; have hT := HT4.out.below hk4; clear hw)
      | (go_at_call 29; refine (HOP.out _ (by assumption)).mono ?_; rintro e w' ⟨rfl, hw⟩; have hk4 := below_next hk4 hw; have c1 := box_keep HD1.out l4 hk4; have hT := HT4.out.below hk4; clear hw))
    go_ret
    exact ret_of rfl (below_next hb4 hk4)
  · have t1 : ((S : Int) == r) = false := by simp; exact e1
    have t2 : (m == n) = false := by simp; exact e2
    have t3 : decide ((I : Int) < 0) = false := by simp
    have t4 : decide (q ≤ (I : Int)) = false := by simp; omega
    have hI2 : (I : Int) < q := by omega
    obtain ⟨D2, hD2⟩ : ∃ D2, D2 = (m - n) % q := ⟨_, rfl⟩
    have D20 : 0 ≤ D2 := by rw [hD2]; exact Int.emod_nonneg _ (by omega)
    have D2q : D2 < q := by rw [hD2]; exact Int.emod_lt_of_pos _ (by omega)
    rw [← hD2] at hfin
    have t5 : (log == log) = true := by simp
    have hmul := fun w => rmul_z D2 (I : Int) q D20 D2q (by omega) hI2 (by omega) w
    rw [Int.toNat_natCast, hfin] at hmul
    have HD := Lib.hid hD; have HINV := Lib.hid hinv; have HD2 := Lib.hid hD2; have HMUL := Lib.hid hmul
    clear hD hfin hinv hI hD2 hmul e1 e2
    go_wp2_with (first
      | (go_at_call 24; refine (rbvalid_any _ _ _ _ _ _ _).mono ?_; rintro e w' ⟨rfl, hw⟩; rw [HV'.out]; have hk4 := below_next hk4 hw; have c1 := box_keep HD1.out l4 hk4; have hT := HT4.out.below hk4; clear hw)
      | (go_at_call 31; refine (HCOM.out _ (by assumption)).mono ?_; rintro e w' ⟨rfl, hw⟩; have hk4 := below_next hk4 hw; have c1 := box_keep HD1.out l4 hk4; have hT := HT4.out.below hk4; clear hw)
      | (go_at_call 23; refine (HOTH.out _ (by assumption)).mono ?_; rintro e w' ⟨rfl, hw⟩; have hk4 := below_next hk4 hw; have c1 := box_keep HD1.out l4 hk4; have hT := HT4.out.below hk4; clear hw)
      | (go_at_call 28; refine (rscalar15_any _ _ _ _ _).mono ?_; rintro e w' ⟨rfl, hw⟩; rw [HSQ.out]; have hk4 := below_next hk4 hw; have c1 := box_keep HD1.out l4 hk4; have hT := HT4.out.below hk4; clear hw)
      | (go_at_call 29; refine (HOP.out _ (by assumption)).mono ?_; rintro e w' ⟨rfl, hw⟩; have hk4 := below_next hk4 hw; have c1 := box_keep HD1.out l4 hk4; have hT := HT4.out.below hk4; clear hw)
      | (go_at_call 21; (first | (with_reducible refine (rreduce_z ((S : Int) - r) q (by omega) (by omega) _).mono ?_) | (with_reducible refine (rreduce_z (m - n) q (by omega) (by omega) _).mono ?_)); rintro e w' ⟨rfl, n6, rfl⟩; (first | rw [← HD.out] | rw [← HD2.out]))
      | (go_at_call 32; refine (HINV.out _).mono ?_; rintro e w3 ⟨rfl, n3, rfl⟩)
      | (go_at_call 33; refine (HMUL.out _).mono ?_; rintro e w3 ⟨rfl, n5, rfl⟩))
    go_ret
    exact ret_of rfl (below_next (below_next hb4 hk4) (below_drewN _ _))
theorem lawB_any (hp : -9223372036854775808 ≤ p) (hp2 : p ≤ 9223372036854775807) (hq : -9223372036854775808 ≤ q) (hq2 : q ≤ 9223372036854775807) (hT : Tabs w) :
    Calls Tryd.prog 7 #[bV p q g g1 g2 h, .int .i64 log, .int .i64 m, .int .i64 r, .int .i64 n] w (Ret (.bool true) w) := by
  cases c0 : bvalB p q g g1 g2 h
  · exact lawb_quit p q g g1 g2 h log m r n w hT (Or.inl c0)
  · have hS := bvalB_true.1 c0
    cases c1 : [log, m, r, n].all (scB q)
    · exact lawb_quit p q g g1 g2 h log m r n w hT (Or.inr (Or.inl ⟨hS, c1⟩))
    · by_cases hl : log = 0
      · exact lawb_quit p q g g1 g2 h log m r n w hT (Or.inr (Or.inr ⟨hS, c1, hl⟩))
      · have p3 := hS.G.p3; have pm := hS.G.pm; have q3 := hS.G.q3; have hqp := hS.G.qp
        have hgm : memB p q g = true := memB_true.2 ⟨by have := hS.G.g2; omega, hS.G.gp, hS.G.pw⟩
        have hx' := c1
        simp at hx'
        obtain ⟨sl, sm, sr, sn⟩ := hx'
        obtain ⟨L0, Lq⟩ := scB_true.1 sl
        obtain ⟨M0, Mq⟩ := scB_true.1 sm
        obtain ⟨R0, Rq⟩ := scB_true.1 sr
        obtain ⟨N0, Nq⟩ := scB_true.1 sn
        have el : log % q = log := Int.emod_eq_of_lt L0 Lq
        obtain ⟨R, hR⟩ : ∃ R, R = g.toNat ^ (log % q).toNat % p.toNat := ⟨_, rfl⟩
        have hRm : memB p q (R : Int) = true := by rw [hR]; exact mem_pow p3 q3 hgm _
        have hC := hS.G.cyc hgm (by have := hS.G.g2; omega)
        have hR1 : (R : Int) ≠ 1 := by
          intro e
          have e2 : g.toNat ^ log.toNat % p.toNat = g.toNat ^ 0 % p.toNat := by
            rw [Nat.pow_zero, Nat.mod_eq_of_lt (show 1 < p.toNat by omega), ← el, ← hR]; omega
          have e3 := hC.inj _ _ e2
          rw [Nat.mod_eq_of_lt (by omega), Nat.zero_mod] at e3
          omega
        have hS' : BSpec p q g g1 g2 R := ⟨hS.G, hS.n1, hS.n2, hR1, hS.m1, hS.m2, hRm⟩
        have hgcd : Nat.gcd log.toNat q.toNat = 1 := gcd_pm hS.G.pmq (by omega) (by omega)
        have hRR : (g.toNat ^ log.toNat % p.toNat : Nat) = R := by rw [hR, el]
        have hx2 : [m, r, n, log].all (scB q) = true := by simp [sl, sm, sr, sn]
        obtain ⟨o0, oq⟩ := other_range (q := q.toNat) (by omega) m r n log.toNat
        obtain ⟨S, hSS⟩ : ∃ S : Nat, (S : Int) = otherN q.toNat m r n log.toNat := ⟨_, Int.toNat_of_nonneg o0⟩
        have hSq : scB q (S : Int) = true := scB_true.2 ⟨by omega, by omega⟩
        have hoC := other_C (q := q.toNat) (m := m) (r := r) (n := n) (log := log.toNat) (by omega) (by omega) hgcd
        rw [← hSS] at hoC
        have hoE := other_eq (q := q.toNat) (m := m) (r := r) (n := n) (log := log.toNat) (by omega) (by omega) hgcd M0 (by omega) R0 (by omega) N0 (by omega)
        rw [← hSS] at hoE
        have hcs : commN p.toNat g.toNat R n.toNat S = commN p.toNat g.toNat R m.toNat r.toNat := by
          refine other_opens (q := q.toNat) (log := log.toNat) (by omega) hS.G.pw hRR.symm ?_
          rw [Int.toNat_of_nonneg R0, Int.toNat_of_nonneg M0, Int.toNat_of_nonneg N0]
          exact hoC
        refine lawb_walk p q g g1 g2 h log m r n w R (commN p.toNat g.toNat R m.toNat r.toNat) S ((S - r) % q).toNat (invN q.toNat ((S - r) % q).toNat) hS hT c1 hl hR hS' hSq (fun w hT => ?_) (fun w hT => ?_) (fun w hT => ?_) ?_
        · have := Commit_ok p q g g1 g2 R m r w hS' hT sm sr
          rwa [Int.toNat_natCast] at this
        · have := other_ok p q g g1 g2 R m r n log w hS' hT hx2 (by rw [hRR]) hgcd
          rwa [← hSS] at this
        · have := open_ok p q g g1 g2 R (commN p.toNat g.toNat R m.toNat r.toNat : Nat) n S w hS' hT sn hSq
          rw [Int.toNat_natCast, Int.toNat_natCast, hcs] at this
          rwa [show decide (((commN p.toNat g.toNat R m.toNat r.toNat : Nat) : Int) = ((commN p.toNat g.toNat R m.toNat r.toNat : Nat) : Int)) = true by simp] at this
        · by_cases e : m = n
          · exact Or.inl ⟨hoE.2 e, e⟩
          · have d0 := Int.emod_nonneg ((S : Int) - r) (show q ≠ 0 by omega)
            have dq := Int.emod_lt_of_pos ((S : Int) - r) (show 0 < q by omega)
            have hSr : (S : Int) ≠ r := fun h5 => e (hoE.1 h5)
            have hD : ((((S : Int) - r) % q).toNat : Int) = ((S : Int) - r) % q := Int.toNat_of_nonneg d0
            have dne : ((S : Int) - r) % q ≠ 0 := by
              intro h5
              have h6 : (S : Int) % q = r % q := by
                have := Int.emod_emod_of_dvd (S : Int) (Int.dvd_refl q)
                exact Int.emod_eq_emod_iff_emod_sub_eq_zero.2 h5
              rw [Int.emod_eq_of_lt (by omega) (scB_true.1 hSq).2, Int.emod_eq_of_lt R0 Rq] at h6
              exact hSr h6
            have hgd : Nat.gcd (((S : Int) - r) % q).toNat q.toNat = 1 := gcd_pm hS.G.pmq (by omega) (by omega)
            have hb := binds (q := q.toNat) (m := m) (r := r) (n := n) (s := S) (log := log.toNat) (d := (((S : Int) - r) % q).toNat) (by omega) (by omega) hoC (by rw [hD, Int.toNat_of_nonneg (show 0 ≤ q by omega)]) hgd
            obtain ⟨hI, hI2⟩ := invN_spec (m := q.toNat) (a := (((S : Int) - r) % q).toNat) (by omega) (by omega) hgd
            refine Or.inr ⟨hSr, e, hD, hI, ?_, fun w => ?_⟩
            · rw [Int.natCast_emod, Int.natCast_mul, Int.toNat_of_nonneg (Int.emod_nonneg _ (by omega)), Int.toNat_of_nonneg (show 0 ≤ q by omega)]
              rw [Int.toNat_of_nonneg (show 0 ≤ q by omega), Int.toNat_of_nonneg L0] at hb
              exact hb
            · have := inverse_yes (((S : Int) - r) % q).toNat q.toNat (by omega) (by omega) (by omega) hgd w
              rwa [Int.toNat_of_nonneg (show 0 ≤ q by omega)] at this
end
end Go.Proofs.YtogbdnecpdcmiaaDoor
