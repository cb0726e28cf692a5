/-
  The law UnlinkSecrets, walked.
-/
import Derived.Test.YtogbdnecpdcmiaaDoorJ7
/-
  The law UnlinkSecrets, walked, but for the secrets themselves.
-/
namespace Go.Proofs.YtogbdnecpdcmiaaDoor
open Go Go.RowKit
set_option maxRecDepth 100000 in
set_option maxHeartbeats 4000000 in
theorem laws_bad (p q g g1 g2 h ps leaf d r1 r2 u E : Int) (w : World) (hT : Tabs w) (hsec : (∀ w, Tabs w → Calls Tryd.prog 13 #[bV p q g g1 g2 h, .int .i64 ps, .int .i64 leaf, .int .i64 d, .int .i64 r1, .int .i64 r2, .int .i64 u] w (Ret (.tuple #[.int .i64 0, .int .i64 0, .int .i64 0, .int .i64 E]) w))) (hopn : (∀ w, Tabs w → Calls Tryd.prog 14 #[bV p q g g1 g2 h, .int .i64 ps, .int .i64 leaf, .int .i64 d, .int .i64 r1, .int .i64 r2] w (Ret (.tuple #[.int .i64 0, .int .i64 E]) w)))
    (h2 : leafE p q g g1 g2 h ps leaf d r1 r2 = E) (hE : E = 1 ∨ E = 2) :
    Calls Tryd.prog 3 #[bV p q g g1 g2 h, .int .i64 ps, .int .i64 leaf, .int .i64 d, .int .i64 r1, .int .i64 r2, .int .i64 u] w (Ret (.bool true) w) := by
  have t1 : (E == 0) = false := by simp; omega
  have t2 : (E != 0) = true := by simp; omega
  have t3 : (E == E) = true := by simp
  have HSEC := Lib.hid hsec; have HOPN := Lib.hid hopn; have HLE := Lib.hid h2
  clear hsec hopn h2 hE
  obtain ⟨W2, hW2, hB1, l1, hb⟩ := one_box w #[.int .i64 p, .int .i64 q, .int .i64 g, .int .i64 g1, .int .i64 g2, .int .i64 h] 25
  have hT2 : Tabs W2 := by rw [hW2]; exact hT.alloc _
  clear hT
  go_enter Tryd.func3, Tryd.ntmps3
  go_upto_region 1 with (fail)
  rw [← hW2]
  obtain ⟨B1, hB1'⟩ : ∃ B, B = w.heap.size := ⟨_, rfl⟩
  rw [← hB1'] at hB1 l1 ⊢
  have hk : Below W2.heap.size W2 W2 := Below.refl _ _
  have c1 := hB1
  have HB1 := Lib.hid hB1; have HT := Lib.hid hT2; have hT := hT2
  clear hW2 hB1' hB1 hT2
  go_wp2_with (first
    | (go_at_call 12; refine (awake_any _ (by assumption)).mono ?_; rintro e w' ⟨rfl, hw⟩; have hk := below_next hk hw; have c1 := box_keep HB1.out l1 hk; have hT := HT.out.below hk; clear hw)
    | (go_at_call 13; refine (HSEC.out _ (by assumption)).mono ?_; rintro e w' ⟨rfl, hw⟩; have hk := below_next hk hw; have c1 := box_keep HB1.out l1 hk; have hT := HT.out.below hk; clear hw)
    | (go_at_call 14; refine (HOPN.out _ (by assumption)).mono ?_; rintro e w' ⟨rfl, hw⟩; have hk := below_next hk hw; have c1 := box_keep HB1.out l1 hk; have hT := HT.out.below hk; clear hw)
    | (go_at_call 15; refine (rleaf_any _ _ _ _ _ _ _ _ _ _ _ _).mono ?_; rintro e w' ⟨rfl, hw⟩; rw [HLE.out]; have hk := below_next hk hw; have c1 := box_keep HB1.out l1 hk; have hT := HT.out.below hk; clear hw))
  go_ret
  exact ret_of rfl (below_next hb hk)
set_option maxRecDepth 100000 in
set_option maxHeartbeats 4000000 in
theorem laws_not (p q g g1 g2 h ps leaf d r1 r2 u E : Int) (w : World) (hT : Tabs w) (hS : BSpec p q g g1 g2 h) (hL : LeafOK p q ps leaf d r1 r2) (hsec : (∀ w, Tabs w → Calls Tryd.prog 13 #[bV p q g g1 g2 h, .int .i64 ps, .int .i64 leaf, .int .i64 d, .int .i64 r1, .int .i64 r2, .int .i64 u] w (Ret (.tuple #[.int .i64 0, .int .i64 0, .int .i64 0, .int .i64 E]) w))) (hopn : (∀ w, Tabs w → Calls Tryd.prog 14 #[bV p q g g1 g2 h, .int .i64 ps, .int .i64 leaf, .int .i64 d, .int .i64 r1, .int .i64 r2] w (Ret (.tuple #[.int .i64 0, .int .i64 11]) w)))
    (hsp : rspentB p g1 g2 ps leaf d r1 r2 = false) (hE : (scB q u = false ∧ E = 2) ∨ (scB q u = true ∧ E = 11)) :
    Calls Tryd.prog 3 #[bV p q g g1 g2 h, .int .i64 ps, .int .i64 leaf, .int .i64 d, .int .i64 r1, .int .i64 r2, .int .i64 u] w (Ret (.bool true) w) := by
  have h2 := leafE_ok (bvalB_true.2 hS) hL
  have HS := Lib.hid hS; have HL := Lib.hid hL; have HSP := Lib.hid hsp
  have HSEC := Lib.hid hsec; have HOPN := Lib.hid hopn; have HLE := Lib.hid h2
  clear hsec hopn h2 hS hL hsp
  rcases hE with ⟨sc, rfl⟩ | ⟨sc, rfl⟩
  · obtain ⟨W2, hW2, hB1, l1, hb⟩ := one_box w #[.int .i64 p, .int .i64 q, .int .i64 g, .int .i64 g1, .int .i64 g2, .int .i64 h] 25
    have hT2 : Tabs W2 := by rw [hW2]; exact hT.alloc _
    clear hT
    go_enter Tryd.func3, Tryd.ntmps3
    go_upto_region 1 with (fail)
    rw [← hW2]
    obtain ⟨B1, hB1'⟩ : ∃ B, B = w.heap.size := ⟨_, rfl⟩
    rw [← hB1'] at hB1 l1 ⊢
    have hk : Below W2.heap.size W2 W2 := Below.refl _ _
    have c1 := hB1
    have HB1 := Lib.hid hB1; have HT := Lib.hid hT2; have hT := hT2
    clear hW2 hB1' hB1 hT2
    go_wp2_with (first
      | (go_at_call 12; refine (awake_any _ (by assumption)).mono ?_; rintro e w' ⟨rfl, hw⟩; have hk := below_next hk hw; have c1 := box_keep HB1.out l1 hk; have hT := HT.out.below hk; clear hw)
      | (go_at_call 13; refine (HSEC.out _ (by assumption)).mono ?_; rintro e w' ⟨rfl, hw⟩; have hk := below_next hk hw; have c1 := box_keep HB1.out l1 hk; have hT := HT.out.below hk; clear hw)
      | (go_at_call 14; refine (HOPN.out _ (by assumption)).mono ?_; rintro e w' ⟨rfl, hw⟩; have hk := below_next hk hw; have c1 := box_keep HB1.out l1 hk; have hT := HT.out.below hk; clear hw)
      | (go_at_call 15; refine (rleaf_any _ _ _ _ _ _ _ _ _ _ _ _).mono ?_; rintro e w' ⟨rfl, hw⟩; rw [HLE.out]; have hk := below_next hk hw; have c1 := box_keep HB1.out l1 hk; have hT := HT.out.below hk; clear hw)
      | (go_at_call 16; refine (rspent_any _ _ _ _ _ _ _ _ _ _ _ _ HS.out HL.out).mono ?_; rintro e w' ⟨rfl, hw⟩; rw [HSP.out]; have hk := below_next hk hw; have c1 := box_keep HB1.out l1 hk; have hT := HT.out.below hk; clear hw)
      | (go_at_call 17; refine (rscalar_any _ _ _ _ _).mono ?_; rintro e w' ⟨rfl, hw⟩; have hk := below_next hk hw; have c1 := box_keep HB1.out l1 hk; have hT := HT.out.below hk; clear hw))
    go_ret
    exact ret_of rfl (below_next hb hk)
  · obtain ⟨W2, hW2, hB1, l1, hb⟩ := one_box w #[.int .i64 p, .int .i64 q, .int .i64 g, .int .i64 g1, .int .i64 g2, .int .i64 h] 25
    have hT2 : Tabs W2 := by rw [hW2]; exact hT.alloc _
    clear hT
    go_enter Tryd.func3, Tryd.ntmps3
    go_upto_region 1 with (fail)
    rw [← hW2]
    obtain ⟨B1, hB1'⟩ : ∃ B, B = w.heap.size := ⟨_, rfl⟩
    rw [← hB1'] at hB1 l1 ⊢
    have hk : Below W2.heap.size W2 W2 := Below.refl _ _
    have c1 := hB1
    have HB1 := Lib.hid hB1; have HT := Lib.hid hT2; have hT := hT2
    clear hW2 hB1' hB1 hT2
    go_wp2_with (first
      | (go_at_call 12; refine (awake_any _ (by assumption)).mono ?_; rintro e w' ⟨rfl, hw⟩; have hk := below_next hk hw; have c1 := box_keep HB1.out l1 hk; have hT := HT.out.below hk; clear hw)
      | (go_at_call 13; refine (HSEC.out _ (by assumption)).mono ?_; rintro e w' ⟨rfl, hw⟩; have hk := below_next hk hw; have c1 := box_keep HB1.out l1 hk; have hT := HT.out.below hk; clear hw)
      | (go_at_call 14; refine (HOPN.out _ (by assumption)).mono ?_; rintro e w' ⟨rfl, hw⟩; have hk := below_next hk hw; have c1 := box_keep HB1.out l1 hk; have hT := HT.out.below hk; clear hw)
      | (go_at_call 15; refine (rleaf_any _ _ _ _ _ _ _ _ _ _ _ _).mono ?_; rintro e w' ⟨rfl, hw⟩; rw [HLE.out]; have hk := below_next hk hw; have c1 := box_keep HB1.out l1 hk; have hT := HT.out.below hk; clear hw)
      | (go_at_call 16; refine (rspent_any _ _ _ _ _ _ _ _ _ _ _ _ HS.out HL.out).mono ?_; rintro e w' ⟨rfl, hw⟩; rw [HSP.out]; have hk := below_next hk hw; have c1 := box_keep HB1.out l1 hk; have hT := HT.out.below hk; clear hw)
      | (go_at_call 17; refine (rscalar_any _ _ _ _ _).mono ?_; rintro e w' ⟨rfl, hw⟩; have hk := below_next hk hw; have c1 := box_keep HB1.out l1 hk; have hT := HT.out.below hk; clear hw))
    go_ret
    exact ret_of rfl (below_next hb hk)
set_option maxRecDepth 100000 in
set_option maxHeartbeats 4000000 in
theorem laws_stop (p q g g1 g2 h ps leaf d r1 r2 u E : Int) (w : World) (hT : Tabs w) (hS : BSpec p q g g1 g2 h) (hL : LeafOK p q ps leaf d r1 r2) (hsec : (∀ w, Tabs w → Calls Tryd.prog 13 #[bV p q g g1 g2 h, .int .i64 ps, .int .i64 leaf, .int .i64 d, .int .i64 r1, .int .i64 r2, .int .i64 u] w (Ret (.tuple #[.int .i64 0, .int .i64 0, .int .i64 0, .int .i64 E]) w))) (hopn : (∀ w, Tabs w → Calls Tryd.prog 14 #[bV p q g g1 g2 h, .int .i64 ps, .int .i64 leaf, .int .i64 d, .int .i64 r1, .int .i64 r2] w (Ret (.tuple #[.int .i64 (q - 1), .int .i64 0]) w)))
    (hsp : rspentB p g1 g2 ps leaf d r1 r2 = true) (hE : (scB q u = false ∧ E = 2) ∨ (scB q u = true ∧ pairN p.toNat g1.toNat g2.toNat u.toNat (Int.toNat 1) = 1 ∧ E = 10) ∨ (scB q u = true ∧ pairN p.toNat g1.toNat g2.toNat u.toNat (Int.toNat 1) ≠ 1 ∧ 1048576 < q ∧ E = 9)) :
    Calls Tryd.prog 3 #[bV p q g g1 g2 h, .int .i64 ps, .int .i64 leaf, .int .i64 d, .int .i64 r1, .int .i64 r2, .int .i64 u] w (Ret (.bool true) w) := by
  have h2 := leafE_ok (bvalB_true.2 hS) hL
  have p3 := hS.G.p3; have pm := hS.G.pm; have q3 := hS.G.q3; have hqp := hS.G.qp
  have t5 : (q - 1 == q - 1) = true := by simp
  have t6 : (q - 1 != q - 1) = false := by simp
  obtain ⟨M, hM⟩ : ∃ M, M = pairN p.toNat g1.toNat g2.toNat u.toNat (Int.toNat 1) := ⟨_, rfl⟩
  rw [← hM] at hE
  have HM := Lib.hid hM
  have HS := Lib.hid hS; have HL := Lib.hid hL; have HSP := Lib.hid hsp
  have HSEC := Lib.hid hsec; have HOPN := Lib.hid hopn; have HLE := Lib.hid h2
  clear hsec hopn h2 hS hL hsp hM
  rcases hE with ⟨sc, rfl⟩ | ⟨sc, m1, rfl⟩ | ⟨sc, m1, hbig, rfl⟩
  · obtain ⟨W2, hW2, hB1, l1, hb⟩ := one_box w #[.int .i64 p, .int .i64 q, .int .i64 g, .int .i64 g1, .int .i64 g2, .int .i64 h] 25
    have hT2 : Tabs W2 := by rw [hW2]; exact hT.alloc _
    clear hT
    go_enter Tryd.func3, Tryd.ntmps3
    go_upto_region 1 with (fail)
    rw [← hW2]
    obtain ⟨B1, hB1'⟩ : ∃ B, B = w.heap.size := ⟨_, rfl⟩
    rw [← hB1'] at hB1 l1 ⊢
    have hk : Below W2.heap.size W2 W2 := Below.refl _ _
    have c1 := hB1
    have HB1 := Lib.hid hB1; have HT := Lib.hid hT2; have hT := hT2
    clear hW2 hB1' hB1 hT2
    go_wp2_with (first
      | (go_at_call 12; refine (awake_any _ (by assumption)).mono ?_; rintro e w' ⟨rfl, hw⟩; have hk := below_next hk hw; have c1 := box_keep HB1.out l1 hk; have hT := HT.out.below hk; clear hw)
      | (go_at_call 13; refine (HSEC.out _ (by assumption)).mono ?_; rintro e w' ⟨rfl, hw⟩; have hk := below_next hk hw; have c1 := box_keep HB1.out l1 hk; have hT := HT.out.below hk; clear hw)
      | (go_at_call 14; refine (HOPN.out _ (by assumption)).mono ?_; rintro e w' ⟨rfl, hw⟩; have hk := below_next hk hw; have c1 := box_keep HB1.out l1 hk; have hT := HT.out.below hk; clear hw)
      | (go_at_call 15; refine (rleaf_any _ _ _ _ _ _ _ _ _ _ _ _).mono ?_; rintro e w' ⟨rfl, hw⟩; rw [HLE.out]; have hk := below_next hk hw; have c1 := box_keep HB1.out l1 hk; have hT := HT.out.below hk; clear hw)
      | (go_at_call 16; refine (rspent_any _ _ _ _ _ _ _ _ _ _ _ _ HS.out HL.out).mono ?_; rintro e w' ⟨rfl, hw⟩; rw [HSP.out]; have hk := below_next hk hw; have c1 := box_keep HB1.out l1 hk; have hT := HT.out.below hk; clear hw)
      | (go_at_call 17; refine (rscalar_any _ _ _ _ _).mono ?_; rintro e w' ⟨rfl, hw⟩; have hk := below_next hk hw; have c1 := box_keep HB1.out l1 hk; have hT := HT.out.below hk; clear hw))
    go_ret
    exact ret_of rfl (below_next hb hk)
  · obtain ⟨u0, uq⟩ := scB_true.1 sc
    have t7 : ((M : Int) == 1) = true := by simp [m1]
    have M1 := Lib.hid m1
    clear m1
    obtain ⟨W2, hW2, hB1, l1, hb⟩ := one_box w #[.int .i64 p, .int .i64 q, .int .i64 g, .int .i64 g1, .int .i64 g2, .int .i64 h] 25
    have hT2 : Tabs W2 := by rw [hW2]; exact hT.alloc _
    clear hT
    go_enter Tryd.func3, Tryd.ntmps3
    go_upto_region 1 with (fail)
    rw [← hW2]
    obtain ⟨B1, hB1'⟩ : ∃ B, B = w.heap.size := ⟨_, rfl⟩
    rw [← hB1'] at hB1 l1 ⊢
    have hk : Below W2.heap.size W2 W2 := Below.refl _ _
    have c1 := hB1
    have HB1 := Lib.hid hB1; have HT := Lib.hid hT2; have hT := hT2
    clear hW2 hB1' hB1 hT2
    go_wp2_with (first
      | (go_at_call 12; refine (awake_any _ (by assumption)).mono ?_; rintro e w' ⟨rfl, hw⟩; have hk := below_next hk hw; have c1 := box_keep HB1.out l1 hk; have hT := HT.out.below hk; clear hw)
      | (go_at_call 13; refine (HSEC.out _ (by assumption)).mono ?_; rintro e w' ⟨rfl, hw⟩; have hk := below_next hk hw; have c1 := box_keep HB1.out l1 hk; have hT := HT.out.below hk; clear hw)
      | (go_at_call 14; refine (HOPN.out _ (by assumption)).mono ?_; rintro e w' ⟨rfl, hw⟩; have hk := below_next hk hw; have c1 := box_keep HB1.out l1 hk; have hT := HT.out.below hk; clear hw)
      | (go_at_call 15; refine (rleaf_any _ _ _ _ _ _ _ _ _ _ _ _).mono ?_; rintro e w' ⟨rfl, hw⟩; rw [HLE.out]; have hk := below_next hk hw; have c1 := box_keep HB1.out l1 hk; have hT := HT.out.below hk; clear hw)
      | (go_at_call 16; refine (rspent_any _ _ _ _ _ _ _ _ _ _ _ _ HS.out HL.out).mono ?_; rintro e w' ⟨rfl, hw⟩; rw [HSP.out]; have hk := below_next hk hw; have c1 := box_keep HB1.out l1 hk; have hT := HT.out.below hk; clear hw)
      | (go_at_call 17; refine (rscalar_any _ _ _ _ _).mono ?_; rintro e w' ⟨rfl, hw⟩; have hk := below_next hk hw; have c1 := box_keep HB1.out l1 hk; have hT := HT.out.below hk; clear hw)
      | (go_at_call 18; refine (rpair_any _ _ _ _ _ _ _ _ _ HS.out u0 uq (by omega) (by omega)).mono ?_; rintro e w' ⟨rfl, hw⟩; rw [← HM.out]; have hk := below_next hk hw; have c1 := box_keep HB1.out l1 hk; have hT := HT.out.below hk; clear hw))
    go_ret
    exact ret_of rfl (below_next hb hk)
  · obtain ⟨u0, uq⟩ := scB_true.1 sc
    have t7 : ((M : Int) == 1) = false := by simp; omega
    have t8 : decide (1048576 < q) = true := by simp; omega
    clear m1
    obtain ⟨W2, hW2, hB1, l1, hb⟩ := one_box w #[.int .i64 p, .int .i64 q, .int .i64 g, .int .i64 g1, .int .i64 g2, .int .i64 h] 25
    have hT2 : Tabs W2 := by rw [hW2]; exact hT.alloc _
    clear hT
    go_enter Tryd.func3, Tryd.ntmps3
    go_upto_region 1 with (fail)
    rw [← hW2]
    obtain ⟨B1, hB1'⟩ : ∃ B, B = w.heap.size := ⟨_, rfl⟩
    rw [← hB1'] at hB1 l1 ⊢
    have hk : Below W2.heap.size W2 W2 := Below.refl _ _
    have c1 := hB1
    have HB1 := Lib.hid hB1; have HT := Lib.hid hT2; have hT := hT2
    clear hW2 hB1' hB1 hT2
    go_wp2_with (first
      | (go_at_call 12; refine (awake_any _ (by assumption)).mono ?_; rintro e w' ⟨rfl, hw⟩; have hk := below_next hk hw; have c1 := box_keep HB1.out l1 hk; have hT := HT.out.below hk; clear hw)
      | (go_at_call 13; refine (HSEC.out _ (by assumption)).mono ?_; rintro e w' ⟨rfl, hw⟩; have hk := below_next hk hw; have c1 := box_keep HB1.out l1 hk; have hT := HT.out.below hk; clear hw)
      | (go_at_call 14; refine (HOPN.out _ (by assumption)).mono ?_; rintro e w' ⟨rfl, hw⟩; have hk := below_next hk hw; have c1 := box_keep HB1.out l1 hk; have hT := HT.out.below hk; clear hw)
      | (go_at_call 15; refine (rleaf_any _ _ _ _ _ _ _ _ _ _ _ _).mono ?_; rintro e w' ⟨rfl, hw⟩; rw [HLE.out]; have hk := below_next hk hw; have c1 := box_keep HB1.out l1 hk; have hT := HT.out.below hk; clear hw)
      | (go_at_call 16; refine (rspent_any _ _ _ _ _ _ _ _ _ _ _ _ HS.out HL.out).mono ?_; rintro e w' ⟨rfl, hw⟩; rw [HSP.out]; have hk := below_next hk hw; have c1 := box_keep HB1.out l1 hk; have hT := HT.out.below hk; clear hw)
      | (go_at_call 17; refine (rscalar_any _ _ _ _ _).mono ?_; rintro e w' ⟨rfl, hw⟩; have hk := below_next hk hw; have c1 := box_keep HB1.out l1 hk; have hT := HT.out.below hk; clear hw)
      | (go_at_call 18; refine (rpair_any _ _ _ _ _ _ _ _ _ HS.out u0 uq (by omega) (by omega)).mono ?_; rintro e w' ⟨rfl, hw⟩; rw [← HM.out]; have hk := below_next hk hw; have c1 := box_keep HB1.out l1 hk; have hT := HT.out.below hk; clear hw))
    go_ret
    exact ret_of rfl (below_next hb hk)
set_option maxRecDepth 100000 in
set_option maxHeartbeats 4000000 in
theorem laws_ref (p q g g1 g2 h ps leaf d r1 r2 u X1 X2 : Int) (s : Nat) (w : World) (hT : Tabs w) (hS : BSpec p q g g1 g2 h) (hL : LeafOK p q ps leaf d r1 r2) (hsec : (∀ w, Tabs w → Calls Tryd.prog 13 #[bV p q g g1 g2 h, .int .i64 ps, .int .i64 leaf, .int .i64 d, .int .i64 r1, .int .i64 r2, .int .i64 u] w (Ret (.tuple #[.int .i64 (s : Int), .int .i64 X1, .int .i64 X2, .int .i64 0]) w))) (hopn : (∀ w, Tabs w → Calls Tryd.prog 14 #[bV p q g g1 g2 h, .int .i64 ps, .int .i64 leaf, .int .i64 d, .int .i64 r1, .int .i64 r2] w (Ret (.tuple #[.int .i64 (q - 1), .int .i64 0]) w)))
    (hsp : rspentB p g1 g2 ps leaf d r1 r2 = true) (hu : scB q u = true) (hm : pairN p.toNat g1.toNat g2.toNat u.toNat (Int.toNat 1) ≠ 1) (hq : q ≤ 20000)
    (hC : Cyc p.toNat q.toNat (pairN p.toNat g1.toNat g2.toNat u.toNat 1)) (hLN : LogN p.toNat q.toNat (pairN p.toNat g1.toNat g2.toNat u.toNat 1) ps.toNat s)
    (hX1 : X1 = (r1 - ((d.toNat * (u.toNat * s % q.toNat) % q.toNat : Nat) : Int)) % q) (hX2 : X2 = (r2 - ((d.toNat * s % q.toNat : Nat) : Int)) % q) :
    Calls Tryd.prog 3 #[bV p q g g1 g2 h, .int .i64 ps, .int .i64 leaf, .int .i64 d, .int .i64 r1, .int .i64 r2, .int .i64 u] w (Ret (.bool true) w) := by
  have h2 := leafE_ok (bvalB_true.2 hS) hL
  have p3 := hS.G.p3; have pm := hS.G.pm; have q3 := hS.G.q3; have hqp := hS.G.qp
  have t5 : (q - 1 == q - 1) = true := by simp
  have t6 : (q - 1 != q - 1) = false := by simp
  have t10 : ((s : Int) == s) = true := by simp
  have t11 : (X1 == X1) = true := by simp
  have t12 : (X2 == X2) = true := by simp
  obtain ⟨M, hM⟩ : ∃ M, M = pairN p.toNat g1.toNat g2.toNat u.toNat (Int.toNat 1) := ⟨_, rfl⟩
  rw [← hM] at hm
  have HM := Lib.hid hM
  have HS := Lib.hid hS; have HL := Lib.hid hL; have HSP := Lib.hid hsp; have HU := Lib.hid hu; have HC := Lib.hid hC; have HLN := Lib.hid hLN; have HX1 := Lib.hid hX1; have HX2 := Lib.hid hX2
  have HSEC := Lib.hid hsec; have HOPN := Lib.hid hopn; have HLE := Lib.hid h2
  obtain ⟨u0, uq⟩ := scB_true.1 hu
  have t7 : ((M : Int) == 1) = false := by simp; omega
  have t8 : decide (1048576 < q) = false := by simp; omega
  have t9 : decide (20000 < q) = false := by simp; omega
  clear hsec hopn h2 hS hL hsp hM hC hLN hX1 hX2 hm
  obtain ⟨W2, hW2, hB1, l1, hb⟩ := one_box w #[.int .i64 p, .int .i64 q, .int .i64 g, .int .i64 g1, .int .i64 g2, .int .i64 h] 25
  have hT2 : Tabs W2 := by rw [hW2]; exact hT.alloc _
  clear hT
  go_enter Tryd.func3, Tryd.ntmps3
  go_upto_region 1 with (fail)
  rw [← hW2]
  obtain ⟨B1, hB1'⟩ : ∃ B, B = w.heap.size := ⟨_, rfl⟩
  rw [← hB1'] at hB1 l1 ⊢
  have hk : Below W2.heap.size W2 W2 := Below.refl _ _
  have c1 := hB1
  have HB1 := Lib.hid hB1; have HT := Lib.hid hT2; have hT := hT2
  clear hW2 hB1' hB1 hT2
  go_wp2_with (first
    | (go_at_call 12; refine (awake_any _ (by assumption)).mono ?_; rintro e w' ⟨rfl, hw⟩; have hk := below_next hk hw; have c1 := box_keep HB1.out l1 hk; have hT := HT.out.below hk; clear hw)
    | (go_at_call 13; refine (HSEC.out _ (by assumption)).mono ?_; rintro e w' ⟨rfl, hw⟩; have hk := below_next hk hw; have c1 := box_keep HB1.out l1 hk; have hT := HT.out.below hk; clear hw)
    | (go_at_call 14; refine (HOPN.out _ (by assumption)).mono ?_; rintro e w' ⟨rfl, hw⟩; have hk := below_next hk hw; have c1 := box_keep HB1.out l1 hk; have hT := HT.out.below hk; clear hw)
    | (go_at_call 15; refine (rleaf_any _ _ _ _ _ _ _ _ _ _ _ _).mono ?_; rintro e w' ⟨rfl, hw⟩; rw [HLE.out]; have hk := below_next hk hw; have c1 := box_keep HB1.out l1 hk; have hT := HT.out.below hk; clear hw)
    | (go_at_call 16; refine (rspent_any _ _ _ _ _ _ _ _ _ _ _ _ HS.out HL.out).mono ?_; rintro e w' ⟨rfl, hw⟩; rw [HSP.out]; have hk := below_next hk hw; have c1 := box_keep HB1.out l1 hk; have hT := HT.out.below hk; clear hw)
    | (go_at_call 17; refine (rscalar_any _ _ _ _ _).mono ?_; rintro e w' ⟨rfl, hw⟩; have hk := below_next hk hw; have c1 := box_keep HB1.out l1 hk; have hT := HT.out.below hk; clear hw)
    | (go_at_call 18; refine (rpair_any _ _ _ _ _ _ _ _ _ HS.out u0 uq (by omega) (by omega)).mono ?_; rintro e w' ⟨rfl, hw⟩; rw [← HM.out]; have hk := below_next hk hw; have c1 := box_keep HB1.out l1 hk; have hT := HT.out.below hk; clear hw)
    | (go_at_call 20; refine (rsecrets_any _ _ _ _ _ _ _ _ _ _ _ s _ HS.out HL.out.ps HL.out.d HL.out.r1 HL.out.r2 HU.out HC.out HLN.out).mono ?_; rintro e w' ⟨rfl, hw⟩; rw [← HX1.out, ← HX2.out]; have hk := below_next hk hw; have c1 := box_keep HB1.out l1 hk; have hT := HT.out.below hk; clear hw))
  all_goals (go_ret; exact ret_of rfl (below_next hb hk))
end Go.Proofs.YtogbdnecpdcmiaaDoor
/-
  The law UnlinkSecrets, walked, where the secrets are held against what they mean.
-/
namespace Go.Proofs.YtogbdnecpdcmiaaDoor
open Go Go.RowKit
set_option maxRecDepth 100000 in
set_option maxHeartbeats 8000000 in
theorem laws_mid (p q g g1 g2 h ps leaf d r1 r2 u X1 X2 : Int) (s : Nat) (w : World) (hT : Tabs w) (hS : BSpec p q g g1 g2 h) (hL : LeafOK p q ps leaf d r1 r2) (hsec : (∀ w, Tabs w → Calls Tryd.prog 13 #[bV p q g g1 g2 h, .int .i64 ps, .int .i64 leaf, .int .i64 d, .int .i64 r1, .int .i64 r2, .int .i64 u] w (Ret (.tuple #[.int .i64 (s : Int), .int .i64 X1, .int .i64 X2, .int .i64 0]) w))) (hopn : (∀ w, Tabs w → Calls Tryd.prog 14 #[bV p q g g1 g2 h, .int .i64 ps, .int .i64 leaf, .int .i64 d, .int .i64 r1, .int .i64 r2] w (Ret (.tuple #[.int .i64 (q - 1), .int .i64 0]) w)))
    (hsp : rspentB p g1 g2 ps leaf d r1 r2 = true) (hu : scB q u = true) (hm : pairN p.toNat g1.toNat g2.toNat u.toNat (Int.toNat 1) ≠ 1) (hq : q ≤ 1048576) (hq1 : 20000 < q) (hs0 : s ≠ 0)
    (hX1 : scB q X1 = true) (hX2 : scB q X2 = true) (hP : pairN p.toNat g1.toNat g2.toNat u.toNat (Int.toNat 1) ^ ((s : Int) % q).toNat % p.toNat = ps.toNat) (hLf : pairN p.toNat g1.toNat g2.toNat X1.toNat X2.toNat = leaf.toNat) :
    Calls Tryd.prog 3 #[bV p q g g1 g2 h, .int .i64 ps, .int .i64 leaf, .int .i64 d, .int .i64 r1, .int .i64 r2, .int .i64 u] w (Ret (.bool true) w) := by
  have h2 := leafE_ok (bvalB_true.2 hS) hL
  have p3 := hS.G.p3; have pm := hS.G.pm; have q3 := hS.G.q3; have hqp := hS.G.qp
  have t5 : (q - 1 == q - 1) = true := by simp
  have t6 : (q - 1 != q - 1) = false := by simp
  obtain ⟨M, hM⟩ : ∃ M, M = pairN p.toNat g1.toNat g2.toNat u.toNat (Int.toNat 1) := ⟨_, rfl⟩
  have hMp : (M : Int) < p := by
    have : M < p.toNat := by rw [hM]; unfold pairN; exact Nat.mod_lt _ (by omega)
    omega
  rw [← hM] at hm hP
  have hpos := mem_pos hL.ps
  have lpos := mem_pos hL.lf
  have hP2 : (((M : Int).toNat ^ ((s : Int) % q).toNat % p.toNat : Nat) : Int) = ps := by rw [Int.toNat_natCast, hP]; omega
  have hLf2 : ((pairN p.toNat g1.toNat g2.toNat X1.toNat X2.toNat : Nat) : Int) = leaf := by rw [hLf]; omega
  have HM := Lib.hid hM; have HP := Lib.hid hP2; have HLF := Lib.hid hLf2
  have HS := Lib.hid hS; have HL := Lib.hid hL; have HSP := Lib.hid hsp; have HU := Lib.hid hu
  have HSEC := Lib.hid hsec; have HOPN := Lib.hid hopn; have HLE := Lib.hid h2
  obtain ⟨u0, uq⟩ := scB_true.1 hu
  obtain ⟨x0, xq⟩ := scB_true.1 hX1
  obtain ⟨y0, yq⟩ := scB_true.1 hX2
  have t7 : ((M : Int) == 1) = false := by simp; omega
  have t8 : decide (1048576 < q) = false := by simp; omega
  have t9 : decide (20000 < q) = true := by simp; omega
  have t13 : ((s : Int) == 0) = false := by simp; omega
  clear hsec hopn h2 hS hL hsp hM hm hP hP2 hLf hLf2 hpos lpos
  obtain ⟨W2, hW2, hB1, l1, hb⟩ := one_box w #[.int .i64 p, .int .i64 q, .int .i64 g, .int .i64 g1, .int .i64 g2, .int .i64 h] 25
  have hT2 : Tabs W2 := by rw [hW2]; exact hT.alloc _
  clear hT
  go_enter Tryd.func3, Tryd.ntmps3
  go_upto_region 1 with (fail)
  rw [← hW2]
  obtain ⟨B1, hB1'⟩ : ∃ B, B = w.heap.size := ⟨_, rfl⟩
  rw [← hB1'] at hB1 l1 ⊢
  have hk : Below W2.heap.size W2 W2 := Below.refl _ _
  have c1 := hB1
  have HB1 := Lib.hid hB1; have HT := Lib.hid hT2; have hT := hT2
  clear hW2 hB1' hB1 hT2
  go_upto_region 23 with (first
    | (go_at_call 12; refine (awake_any _ (by assumption)).mono ?_; rintro e w' ⟨rfl, hw⟩; have hk := below_next hk hw; have c1 := box_keep HB1.out l1 hk; have hT := HT.out.below hk; clear hw)
    | (go_at_call 13; refine (HSEC.out _ (by assumption)).mono ?_; rintro e w' ⟨rfl, hw⟩; have hk := below_next hk hw; have c1 := box_keep HB1.out l1 hk; have hT := HT.out.below hk; clear hw)
    | (go_at_call 14; refine (HOPN.out _ (by assumption)).mono ?_; rintro e w' ⟨rfl, hw⟩; have hk := below_next hk hw; have c1 := box_keep HB1.out l1 hk; have hT := HT.out.below hk; clear hw)
    | (go_at_call 15; refine (rleaf_any _ _ _ _ _ _ _ _ _ _ _ _).mono ?_; rintro e w' ⟨rfl, hw⟩; rw [HLE.out]; have hk := below_next hk hw; have c1 := box_keep HB1.out l1 hk; have hT := HT.out.below hk; clear hw)
    | (go_at_call 16; refine (rspent_any _ _ _ _ _ _ _ _ _ _ _ _ HS.out HL.out).mono ?_; rintro e w' ⟨rfl, hw⟩; rw [HSP.out]; have hk := below_next hk hw; have c1 := box_keep HB1.out l1 hk; have hT := HT.out.below hk; clear hw)
    | (go_at_call 17; refine (rscalar_any _ _ _ _ _).mono ?_; rintro e w' ⟨rfl, hw⟩; have hk := below_next hk hw; have c1 := box_keep HB1.out l1 hk; have hT := HT.out.below hk; clear hw)
    | (go_at_call 18; refine (rpair_any _ _ _ _ _ _ _ _ _ HS.out u0 uq (by omega) (by omega)).mono ?_; rintro e w' ⟨rfl, hw⟩; rw [← HM.out]; have hk := below_next hk hw; have c1 := box_keep HB1.out l1 hk; have hT := HT.out.below hk; clear hw))
  obtain ⟨W3, hW3⟩ : ∃ W3, W3 = w' := ⟨_, rfl⟩
  subst hW3
  have l3 := Nat.lt_of_lt_of_le l1 hk.size
  have C1 := Lib.hid c1
  clear hT c1 t5 t6 t7 t8 t9 t13
  go_region_held3 (fun w' => (∀ j, w'.cell? ⟨B1, j, none⟩ = #[Value.int .i64 p, .int .i64 q, .int .i64 g, .int .i64 g1, .int .i64 g2, .int .i64 h][j]?) ∧ Below W3.heap.size W3 w')
    (first
      | exact ⟨C1.out, (Below.refl _ _).drew⟩
      | exact keep1n C1.out l3 (by assumption) (by assumption))
    (first
      | (go_at_call 17; refine (rscalar_any _ _ _ _ _).mono ?_; rintro e w' ⟨rfl, hw⟩)
      | (go_at_call 18; refine (rpair_any _ _ _ _ _ _ _ _ _ HS.out (by omega) (by omega) (by omega) (by omega)).mono ?_; rintro e w' ⟨rfl, hw⟩; first | rw [← HM.out] | rw [HLF.out])
      | (go_at_call 19; refine (rgpow_any _ _ _ _ _ _ HS.out.G (by omega) hMp).mono ?_; rintro e w' ⟨rfl, hw⟩; rw [HP.out]))
  all_goals go_wp2
  all_goals (go_ret; exact ret_of rfl (below_held1 (below_next hb hk) (by assumption)))
end Go.Proofs.YtogbdnecpdcmiaaDoor
/-
  The law UnlinkSecrets returns true for all arguments.
-/
namespace Go.Proofs.YtogbdnecpdcmiaaDoor
open Go Go.RowKit
theorem pair_one {p g1 g2 u : Nat} (h : g2 < p) : pairN p g1 g2 u (Int.toNat 1) = (g1 ^ u % p) * g2 % p := by
  unfold pairN
  rw [show Int.toNat 1 = 1 from rfl, Nat.pow_one, Nat.mod_eq_of_lt h]
theorem scal_mod {q x : Int} (h : 0 < q) : scB q (x % q) = true := scB_true.2 ⟨Int.emod_nonneg _ (by omega), Int.emod_lt_of_pos _ h⟩
/-- two exponents that are congruent modulo q -/
theorem pow_cong {p q a b c : Nat} (h2 : 2 ≤ p) (h : a ^ q % p = 1) (e : b % q = c % q) : a ^ b % p = a ^ c % p := by
  rw [pow_red h2 h b, pow_red h2 h c, e]
theorem sub_cong {q r x : Int} {X c : Nat} (hq : 0 < q) (hX : X = x.toNat) (h0 : 0 ≤ r) (hx : x = (r - (c : Int)) % q) : (X + c) % q.toNat = r.toNat % q.toNat := by
  have h1 : (x + (c : Int)) % q = r % q := by rw [hx, Int.emod_add_emod]; congr 1; omega
  have hx0 : 0 ≤ x := by rw [hx]; exact Int.emod_nonneg _ (by omega)
  have e1 : ((X + c : Nat) : Int) = x + (c : Int) := by rw [hX]; omega
  have e2 : ((r.toNat : Nat) : Int) = r := by omega
  have e3 : ((q.toNat : Nat) : Int) = q := by omega
  apply Int.ofNat_inj.1
  rw [Int.natCast_emod, Int.natCast_emod, e1, e2, e3, h1]
/-- what the secrets mean -/
theorem leaf_of {p q g1 g2 u s d r1 r2 x1 x2 ps leaf : Nat} (hp : Mr.Pm p) (h1 : g1 ^ q % p = 1) (h2 : g2 ^ q % p = 1) (hps : ((g1 ^ u % p) * g2 % p) ^ s % p = ps) (hp0 : ¬ p ∣ ps) (hl : leaf < p)
    (hs : spentP p g1 g2 ps leaf d r1 r2) (e1 : (x1 + d * s % q * u % q) % q = r1 % q) (e2 : (x2 + d * s % q) % q = r2 % q) : pairN p g1 g2 x1 x2 = leaf := by
  have p2 := hp.1
  have a1 : g1 ^ r1 % p = g1 ^ (x1 + d * s * u) % p := by
    refine pow_cong p2 h1 ?_
    rw [← e1, Nat.add_mod x1 (d * s * u), Nat.add_mod x1 (d * s % q * u % q), Nat.mod_mod, Nat.mod_mul_mod]
  have a2 : g2 ^ r2 % p = g2 ^ (x2 + d * s) % p := by
    refine pow_cong p2 h2 ?_
    rw [← e2, Nat.add_mod x2 (d * s), Nat.add_mod x2 (d * s % q), Nat.mod_mod]
  have b1 : ps ^ d % p = (g1 ^ (d * s * u) * g2 ^ (d * s)) % p := by
    rw [← hps, ← Nat.pow_mod, ← Nat.pow_mul, ← Nat.pow_mod, Nat.mul_pow, Nat.mul_mod, ← Nat.pow_mod, ← Nat.pow_mul, ← Nat.mul_mod]
    congr 2
    · congr 1; rw [Nat.mul_comm s d, Nat.mul_comm u]
    · congr 1; rw [Nat.mul_comm s d]
  unfold spentP pairN at hs
  rw [a1, a2, b1, ← Nat.mul_mod, Nat.mod_mul_mod] at hs
  have hne : ¬ Mr.C p (((g1 ^ (d * s * u) * g2 ^ (d * s) : Nat)) : Int) 0 := by
    intro h
    have h3 := Mr.C.zero_iff.1 h
    have h4 : p ∣ ps ^ d := (Nat.dvd_mod_iff (Nat.dvd_refl p)).1 (by rw [b1]; exact (Nat.dvd_mod_iff (Nat.dvd_refl p)).2 h3)
    have h5 : ¬ Mr.C p ((ps : Int) ^ d) 0 := hp.pow_ne (fun h6 => hp0 (Mr.C.zero_iff.1 h6)) d
    rw [← Int.natCast_pow] at h5
    exact h5 (Mr.C.zero_iff.2 h4)
  have h6 : Mr.C p ((((g1 ^ x1 * g2 ^ x2 : Nat)) : Int) * ((g1 ^ (d * s * u) * g2 ^ (d * s) : Nat) : Int)) ((leaf : Int) * ((g1 ^ (d * s * u) * g2 ^ (d * s) : Nat) : Int)) := by
    rw [← Int.natCast_mul, ← Int.natCast_mul]
    refine Mr.C.nat_iff.2 ?_
    rw [Nat.mul_comm leaf, ← hs]
    congr 1
    rw [Nat.pow_add, Nat.pow_add]
    grind
  have h7 := Mr.C.nat_iff.1 (h6.cancel hp hne)
  rw [Nat.mod_eq_of_lt hl] at h7
  unfold pairN
  rw [← Nat.mul_mod]; exact h7
theorem lawS_any (p q g g1 g2 h ps leaf d r1 r2 u : Int) (w : World) (hp : -9223372036854775808 ≤ p) (hp2 : p ≤ 9223372036854775807) (hq : -9223372036854775808 ≤ q) (hq2 : q ≤ 9223372036854775807) (hT : Tabs w) :
    Calls Tryd.prog 3 #[bV p q g g1 g2 h, .int .i64 ps, .int .i64 leaf, .int .i64 d, .int .i64 r1, .int .i64 r2, .int .i64 u] w (Ret (.bool true) w) := by
  have hopn := fun w hT => openings_any p q g g1 g2 h ps leaf d r1 r2 w hp hp2 hq hq2 hT
  have hno := fun F w hT hF => secrets_no p q g g1 g2 h ps leaf d r1 r2 u F w hp hp2 hq hq2 hT hF
  cases c0 : bvalB p q g g1 g2 h
  · have e1 : spentE p q g g1 g2 h ps leaf d r1 r2 = 1 := spentE_arg c0
    rw [e1] at hopn hno
    exact laws_bad p q g g1 g2 h ps leaf d r1 r2 u 1 w hT (fun w hT => hno 1 w hT (Or.inl ⟨rfl, rfl⟩)) hopn (leafE_arg c0) (Or.inl rfl)
  · by_cases hL : LeafOK p q ps leaf d r1 r2
    · have hS := bvalB_true.1 c0
      by_cases hsp : spentP p.toNat g1.toNat g2.toNat ps.toNat leaf.toNat d.toNat r1.toNat r2.toNat
      · have e1 : spentE p q g g1 g2 h ps leaf d r1 r2 = 0 := spentE_ok c0 hL hsp
        have hrs : rspentB p g1 g2 ps leaf d r1 r2 = true := rspentB_true.2 hsp
        rw [e1] at hopn
        cases sc : scB q u
        · exact laws_stop p q g g1 g2 h ps leaf d r1 r2 u 2 w hT hS hL (fun w hT => hno 2 w hT (Or.inr (Or.inl ⟨by rw [e1]; decide, sc, rfl⟩))) hopn hrs (Or.inl ⟨sc, rfl⟩)
        · have p3 := hS.G.p3; have pm := hS.G.pm; have q3 := hS.G.q3; have hqp := hS.G.qp
          obtain ⟨b1, bp⟩ := mem_pos hS.m2
          have em : pairN p.toNat g1.toNat g2.toNat u.toNat (Int.toNat 1) = (g1.toNat ^ u.toNat % p.toNat) * g2.toNat % p.toNat := pair_one (by omega)
          have hmm := msg_mem (u := u) hS
          by_cases m1 : (g1.toNat ^ u.toNat % p.toNat) * g2.toNat % p.toNat = 1
          · exact laws_stop p q g g1 g2 h ps leaf d r1 r2 u 10 w hT hS hL (fun w hT => secrets_stop p q g g1 g2 h ps leaf d r1 r2 u 10 w hS hL hsp sc hT (Or.inl ⟨m1, rfl⟩)) hopn hrs (Or.inr (Or.inl ⟨sc, em.trans m1, rfl⟩))
          · by_cases hbig : 1048576 < q
            · exact laws_stop p q g g1 g2 h ps leaf d r1 r2 u 9 w hT hS hL (fun w hT => secrets_stop p q g g1 g2 h ps leaf d r1 r2 u 9 w hS hL hsp sc hT (Or.inr ⟨m1, hbig, rfl⟩)) hopn hrs (Or.inr (Or.inr ⟨sc, by rw [em]; exact m1, hbig, rfl⟩))
            · have hC := hS.G.cyc hmm (by omega)
              obtain ⟨s, hLN⟩ := hS.G.log hmm (by omega) hL.ps
              rw [Int.toNat_natCast] at hC hLN
              have hsec := fun w hT => secrets_yes p q g g1 g2 h ps leaf d r1 r2 u s w hS hL hsp sc hT m1 (by omega) hC hLN
              have em1 : pairN p.toNat g1.toNat g2.toNat u.toNat 1 = (g1.toNat ^ u.toNat % p.toNat) * g2.toNat % p.toNat := em
              by_cases hmid : 20000 < q
              · obtain ⟨psa, psb, psc⟩ := memB_true.1 hL.ps
                obtain ⟨lfa, lfb, _⟩ := memB_true.1 hL.lf
                have hs0 : s ≠ 0 := by
                  intro h0
                  have h1 := hLN.eq
                  rw [h0, Nat.pow_zero, Nat.mod_eq_of_lt (by omega)] at h1
                  exact hL.n (by omega)
                have hsq := hLN.lt
                refine laws_mid p q g g1 g2 h ps leaf d r1 r2 u _ _ s w hT hS hL hsec hopn hrs sc (by rw [em]; exact m1) (by omega) hmid hs0 (scal_mod (by omega)) (scal_mod (by omega)) ?_ ?_
                · rw [em, Int.emod_eq_of_lt (by omega) (by omega), Int.toNat_natCast]; exact hLN.eq
                · obtain ⟨r1a, r1b⟩ := scB_true.1 hL.r1
                  obtain ⟨r2a, r2b⟩ := scB_true.1 hL.r2
                  refine leaf_of (q := q.toNat) (s := s) (d := d.toNat) (u := u.toNat) (r1 := r1.toNat) (r2 := r2.toNat) (ps := ps.toNat) hS.G.pmp (memB_true.1 hS.m1).2.2 (memB_true.1 hS.m2).2.2 hLN.eq (fun hd => ?_) (by omega) hsp ?_ ?_
                  · have := Nat.le_of_dvd (by omega) hd; omega
                  · exact sub_cong (q := q) (by omega) rfl r1a rfl
                  · exact sub_cong (q := q) (by omega) rfl r2a rfl
              · refine laws_ref p q g g1 g2 h ps leaf d r1 r2 u _ _ s w hT hS hL hsec hopn hrs sc (by rw [em]; exact m1) (by omega) (by rw [em1]; exact hC) (by rw [em1]; exact hLN) ?_ rfl
                congr 3
                rw [Nat.mod_mul_mod, Nat.mul_mod_mod]
                congr 1
                rw [Nat.mul_assoc, Nat.mul_comm s]
      · have e1 : spentE p q g g1 g2 h ps leaf d r1 r2 = 11 := spentE_proof c0 hL hsp
        have hrs : rspentB p g1 g2 ps leaf d r1 r2 = false := by
          cases hh : rspentB p g1 g2 ps leaf d r1 r2
          · rfl
          · exact absurd (rspentB_true.1 hh) hsp
        rw [e1] at hopn hno
        cases sc : scB q u
        · exact laws_not p q g g1 g2 h ps leaf d r1 r2 u 2 w hT hS hL (fun w hT => hno 2 w hT (Or.inr (Or.inl ⟨by decide, sc, rfl⟩))) hopn hrs (Or.inl ⟨sc, rfl⟩)
        · exact laws_not p q g g1 g2 h ps leaf d r1 r2 u 11 w hT hS hL (fun w hT => hno 11 w hT (Or.inr (Or.inr ⟨by decide, sc, by decide, rfl⟩))) hopn hrs (Or.inr ⟨sc, rfl⟩)
    · have e1 : spentE p q g g1 g2 h ps leaf d r1 r2 = 2 := spentE_range c0 hL
      rw [e1] at hopn hno
      refine laws_bad p q g g1 g2 h ps leaf d r1 r2 u 2 w hT (fun w hT => hno 2 w hT ?_) hopn (leafE_range c0 hL) (Or.inr rfl)
      cases sc : scB q u
      · exact Or.inr (Or.inl ⟨by decide, rfl, rfl⟩)
      · exact Or.inr (Or.inr ⟨by decide, rfl, by decide, rfl⟩)
end Go.Proofs.YtogbdnecpdcmiaaDoor
