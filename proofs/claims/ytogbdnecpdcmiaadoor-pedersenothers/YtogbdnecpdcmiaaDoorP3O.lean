/-
  The law PedersenOthers, walked.
-/
import Derived.Test.YtogbdnecpdcmiaaDoorP2
import Derived.Test.YtogbdnecpdcmiaaDoorJ3
/-
  The law PedersenOthers returns true for all arguments.
-/
namespace Go.Proofs.YtogbdnecpdcmiaaDoor
open Go Go.RowKit
theorem slAt_new4 (W : World) (a b c d : Int) (k : Nat) : SlAt ((W.drewN k).alloc (.cells #[.int .i64 a, .int .i64 b, .int .i64 c, .int .i64 d] 3)) W.heap.size [a, b, c, d] :=
  slAt_four (size_lt (W.drewN k) _) (fun j => cell_of_row _ W.heap.size j _ _ _ (heap_alloc_new (W.drewN k) _))
section
variable (p q g g1 g2 h m r n log : Int) (w : World)
set_option maxRecDepth 100000 in
set_option maxHeartbeats 2000000 in
theorem lawo_ok (O : Int) (hS : BSpec p q g g1 g2 h) (hT : Tabs w) (hx : [m, r, n, log].all (scB q) = true) (hl : ((g.toNat ^ log.toNat % p.toNat : Nat) : Int) = h)
    (ho : ∀ w, Tabs w → Calls Tryd.prog 23 #[bV p q g g1 g2 h, .int .i64 m, .int .i64 r, .int .i64 n, .int .i64 log] w (Ret (.tuple #[.int .i64 O, .int .i64 0]) w))
    (hro : ∀ w, Calls Tryd.prog 26 #[bV p q g g1 g2 h, .int .i64 m, .int .i64 r, .int .i64 n, .int .i64 log] w (Ret (.int .i64 O) w)) :
    Calls Tryd.prog 5 #[bV p q g g1 g2 h, .int .i64 m, .int .i64 r, .int .i64 n, .int .i64 log] w (Ret (.bool true) w) := by
  have p3 := hS.G.p3; have pm := hS.G.pm; have q3 := hS.G.q3; have hqp := hS.G.qp
  have g2' := hS.G.g2; have gp' := hS.G.gp
  have hsl : scB q log = true := by simp at hx; exact hx.2.2.2
  obtain ⟨L0, Lq⟩ := scB_true.1 hsl
  have hv : bvalB p q g g1 g2 h = true := bvalB_true.2 hS
  obtain ⟨R, hR⟩ : ∃ R, R = g.toNat ^ (log % q).toNat % p.toNat := ⟨_, rfl⟩
  have hR2 : g.toNat ^ log.toNat % p.toNat = R := by rw [hR, Int.emod_eq_of_lt L0 Lq]
  rw [hR2] at hl
  have t0 : ((R : Int) == h) = true := by simp; exact hl
  have t1 : ((R : Int) != h) = false := by simp; exact hl
  have t2 : (O == O) = true := by simp
  obtain ⟨W2, hW2, hB1, l1, hb⟩ := one_box w #[.int .i64 p, .int .i64 q, .int .i64 g, .int .i64 g1, .int .i64 g2, .int .i64 h] 25
  have hT2 : Tabs W2 := by rw [hW2]; exact hT.alloc _
  have HV := Lib.hid hv; have HX := Lib.hid hx; have HG := Lib.hid hS.G; have HR := Lib.hid hR; have HO := Lib.hid ho; have HRO := Lib.hid hro
  clear hS hx hl hsl hR hR2 hv ho hro hT
  go_enter Tryd.func5, Tryd.ntmps5
  go_upto_region 1 with (fail)
  rw [← hW2]
  obtain ⟨B1, hB1'⟩ : ∃ B, B = w.heap.size := ⟨_, rfl⟩
  rw [← hB1'] at hB1 l1 ⊢
  have hk : Below W2.heap.size W2 W2 := Below.refl _ _
  have c1 := hB1
  have HB1 := Lib.hid hB1; have HT := Lib.hid hT2; have hT := hT2
  clear hW2 hB1' hB1 hT2
  go_upto_region 6 with (first
    | (go_at_call 22; refine (awake15_any _ (by assumption)).mono ?_; rintro e w' ⟨rfl, hw⟩; have hk := below_next hk hw; have c1 := box_keep HB1.out l1 hk; have hT := HT.out.below hk; clear hw)
    | (go_at_call 23; refine (HO.out _ (by assumption)).mono ?_; rintro e w' ⟨rfl, hw⟩; have hk := below_next hk hw; have c1 := box_keep HB1.out l1 hk; have hT := HT.out.below hk; clear hw)
    | (go_at_call 24; refine (rbvalid_any _ _ _ _ _ _ _).mono ?_; rintro e w' ⟨rfl, hw⟩; rw [HV.out]; have hk := below_next hk hw; have c1 := box_keep HB1.out l1 hk; have hT := HT.out.below hk; clear hw))
  obtain ⟨W3, hW3⟩ : ∃ W3, W3 = w' := ⟨_, rfl⟩
  subst hW3
  have l1' := Nat.lt_of_lt_of_le l1 hk.size
  have HC1 := Lib.hid c1
  clear hT c1
  (go_region_held3 (fun w' => (∀ j, w'.cell? ⟨B1, j, none⟩ = #[Value.int .i64 p, .int .i64 q, .int .i64 g, .int .i64 g1, .int .i64 g2, .int .i64 h][j]?) ∧ Below W3.heap.size W3 w')
    (first
      | exact ⟨HC1.out, (Below.refl _ _).drew⟩
      | exact keep1 HC1.out l1' ((Below.refl _ _).drew.alloc (Nat.le_refl _) _)
      | exact keep1n HC1.out l1' (by assumption) (by assumption))
    (first
      | (go_at_call 25; refine (rscalars_any p q g [m, r, n, log] 4 _ _ rfl (by omega) (slAt_new4 W3 m r n log 1)).mono ?_; rintro e w' ⟨rfl, hw⟩; rw [HX.out])
      | (go_at_call 19; refine (rgpow_any p q g g log _ HG.out (by omega) gp').mono ?_; rintro e w' ⟨rfl, hw⟩; rw [← HR.out])))
  all_goals (
    have hh : (∀ j, w'.cell? ⟨B1, j, none⟩ = #[Value.int .i64 p, .int .i64 q, .int .i64 g, .int .i64 g1, .int .i64 g2, .int .i64 h][j]?) ∧ Below W3.heap.size W3 w' := by assumption
    obtain ⟨c1, hk2⟩ := hh
    have hk3 := below_next hk hk2
    go_wp2_with (go_at_call 26; refine (HRO.out _).mono ?_; rintro e w'' ⟨rfl, hw⟩; have hk3 := below_next hk3 hw; clear hw)
    go_ret
    exact ret_of rfl (below_next hb hk3))
set_option maxRecDepth 100000 in
set_option maxHeartbeats 2000000 in
/-- where the bases are not valid -/
theorem lawo_arg (hT : Tabs w) (hv : bvalB p q g g1 g2 h = false) (ho : ∀ w, Tabs w → Calls Tryd.prog 23 #[bV p q g g1 g2 h, .int .i64 m, .int .i64 r, .int .i64 n, .int .i64 log] w (Ret (.tuple #[.int .i64 0, .int .i64 1]) w)) :
    Calls Tryd.prog 5 #[bV p q g g1 g2 h, .int .i64 m, .int .i64 r, .int .i64 n, .int .i64 log] w (Ret (.bool true) w) := by
  obtain ⟨W2, hW2, hB1, l1, hb⟩ := one_box w #[.int .i64 p, .int .i64 q, .int .i64 g, .int .i64 g1, .int .i64 g2, .int .i64 h] 25
  have hT2 : Tabs W2 := by rw [hW2]; exact hT.alloc _
  have HV := Lib.hid hv; have HO := Lib.hid ho
  clear hv ho hT
  go_enter Tryd.func5, Tryd.ntmps5
  go_upto_region 1 with (fail)
  rw [← hW2]
  obtain ⟨B1, hB1'⟩ : ∃ B, B = w.heap.size := ⟨_, rfl⟩
  rw [← hB1'] at hB1 l1 ⊢
  have hk : Below W2.heap.size W2 W2 := Below.refl _ _
  have c1 := hB1
  have HB1 := Lib.hid hB1; have HT := Lib.hid hT2; have hT := hT2
  clear hW2 hB1' hB1 hT2
  go_wp2_with (first
    | (go_at_call 22; refine (awake15_any _ (by assumption)).mono ?_; rintro e w' ⟨rfl, hw⟩; have hk := below_next hk hw; have c1 := box_keep HB1.out l1 hk; have hT := HT.out.below hk; clear hw)
    | (go_at_call 23; refine (HO.out _ (by assumption)).mono ?_; rintro e w' ⟨rfl, hw⟩; have hk := below_next hk hw; have c1 := box_keep HB1.out l1 hk; have hT := HT.out.below hk; clear hw)
    | (go_at_call 24; refine (rbvalid_any _ _ _ _ _ _ _).mono ?_; rintro e w' ⟨rfl, hw⟩; rw [HV.out]; have hk := below_next hk hw; clear hw))
  go_ret
  exact ret_of rfl (below_next hb hk)
set_option maxRecDepth 100000 in
set_option maxHeartbeats 2000000 in
/-- where a number is out of range -/
theorem lawo_range (hS : BSpec p q g g1 g2 h) (hT : Tabs w) (hx : [m, r, n, log].all (scB q) = false) (ho : ∀ w, Tabs w → Calls Tryd.prog 23 #[bV p q g g1 g2 h, .int .i64 m, .int .i64 r, .int .i64 n, .int .i64 log] w (Ret (.tuple #[.int .i64 0, .int .i64 2]) w)) :
    Calls Tryd.prog 5 #[bV p q g g1 g2 h, .int .i64 m, .int .i64 r, .int .i64 n, .int .i64 log] w (Ret (.bool true) w) := by
  have hv : bvalB p q g g1 g2 h = true := bvalB_true.2 hS
  obtain ⟨W2, hW2, hB1, l1, hb⟩ := one_box w #[.int .i64 p, .int .i64 q, .int .i64 g, .int .i64 g1, .int .i64 g2, .int .i64 h] 25
  have hT2 : Tabs W2 := by rw [hW2]; exact hT.alloc _
  have HV := Lib.hid hv; have HO := Lib.hid ho; have HX := Lib.hid hx
  clear hv ho hT hS hx
  go_enter Tryd.func5, Tryd.ntmps5
  go_upto_region 1 with (fail)
  rw [← hW2]
  obtain ⟨B1, hB1'⟩ : ∃ B, B = w.heap.size := ⟨_, rfl⟩
  rw [← hB1'] at hB1 l1 ⊢
  have hk : Below W2.heap.size W2 W2 := Below.refl _ _
  have c1 := hB1
  have HB1 := Lib.hid hB1; have HT := Lib.hid hT2; have hT := hT2
  clear hW2 hB1' hB1 hT2
  go_upto_region 6 with (first
    | (go_at_call 22; refine (awake15_any _ (by assumption)).mono ?_; rintro e w' ⟨rfl, hw⟩; have hk := below_next hk hw; have c1 := box_keep HB1.out l1 hk; have hT := HT.out.below hk; clear hw)
    | (go_at_call 23; refine (HO.out _ (by assumption)).mono ?_; rintro e w' ⟨rfl, hw⟩; have hk := below_next hk hw; have c1 := box_keep HB1.out l1 hk; have hT := HT.out.below hk; clear hw)
    | (go_at_call 24; refine (rbvalid_any _ _ _ _ _ _ _).mono ?_; rintro e w' ⟨rfl, hw⟩; rw [HV.out]; have hk := below_next hk hw; have c1 := box_keep HB1.out l1 hk; have hT := HT.out.below hk; clear hw))
  obtain ⟨W3, hW3⟩ : ∃ W3, W3 = w' := ⟨_, rfl⟩
  subst hW3
  have l1' := Nat.lt_of_lt_of_le l1 hk.size
  have HC1 := Lib.hid c1
  clear hT c1
  refine wp_region_held_drew (S := (fun w' => (∀ j, w'.cell? ⟨B1, j, none⟩ = #[Value.int .i64 p, .int .i64 q, .int .i64 g, .int .i64 g1, .int .i64 g2, .int .i64 h][j]?) ∧ Below W3.heap.size W3 w')) (by kernel_rfl) ⟨HC1.out, (Below.refl _ _).drew⟩ (fun hHeld => ?_)
  refine' wpAnyH_take1 (i := 0) (v := _) rfl rfl (by kernel_rfl) (by kernel_rfl) (by kernel_rfl) (fun _ _ _ h => h) (by rfl) ?hy0 (by assumption) ?hr0
  case hy0 => (intro w hSw; (try dsimp only at hSw); go_simp; (try with_reducible rfl))
  (try simp only [List.setIfInBounds_toArray, List.set_cons_zero, List.set_cons_succ])
  refine' wpAnyH_take1 (i := 1) (v := _) rfl rfl (by kernel_rfl) (by kernel_rfl) (by kernel_rfl) (fun _ _ _ h => h) (by rfl) ?hy1 (by assumption) ?hr1
  case hy1 => (intro w hSw; (try dsimp only at hSw); go_simp; (try with_reducible rfl))
  (try simp only [List.setIfInBounds_toArray, List.set_cons_zero, List.set_cons_succ])
  refine' wpAnyH_take1 (i := 2) (v := _) rfl rfl (by kernel_rfl) (by kernel_rfl) (by kernel_rfl) (fun _ _ _ h => h) (by rfl) ?hy2 (by assumption) ?hr2
  case hy2 => (intro w hSw; (try dsimp only at hSw); go_simp; (try with_reducible rfl))
  (try simp only [List.setIfInBounds_toArray, List.set_cons_zero, List.set_cons_succ])
  refine' wpAnyH_take1 (i := 3) (v := _) rfl rfl (by kernel_rfl) (by kernel_rfl) (by kernel_rfl) (fun _ _ _ h => h) (by rfl) ?hy3 (by assumption) ?hr3
  case hy3 => (intro w hSw; (try dsimp only at hSw); go_simp; (try with_reducible rfl))
  (try simp only [List.setIfInBounds_toArray, List.set_cons_zero, List.set_cons_succ])
  refine' wpAnyH_take1 (i := 4) (v := _) rfl rfl (by kernel_rfl) (by kernel_rfl) (by kernel_rfl) (fun _ _ _ h => h) (by rfl) ?hy4 (by assumption) ?hr4
  case hy4 => (intro w hSw; (try dsimp only at hSw); go_simp; (try with_reducible rfl))
  (try simp only [List.setIfInBounds_toArray, List.set_cons_zero, List.set_cons_succ])
  refine' wpAnyH_take1 (i := 5) (v := _) rfl rfl (by kernel_rfl) (by kernel_rfl) (by kernel_rfl) (fun _ _ _ h => h) (by rfl) ?hy5 (by assumption) ?hr5
  case hy5 => (intro w hSw; (try dsimp only at hSw); go_simp; (try with_reducible rfl))
  (try simp only [List.setIfInBounds_toArray, List.set_cons_zero, List.set_cons_succ])
  refine wpAnyH_ready (rs := [6]) (by kernel_rfl) (by simp) ?_
  refine AllReadyH.cons rfl (fun K hK => ?_) AllReadyH.nil
  go_simp
  refine hK.out _ _ ?_ (fun hHeld => ?_)
  · exact keep1 HC1.out l1' ((Below.refl _ _).drew.alloc (Nat.le_refl _) _)
  clear hK K
  (try simp only [Act.put, List.setIfInBounds_toArray, List.set_cons_zero, List.set_cons_succ])
  refine wpAnyH_ready (rs := [7]) (by kernel_rfl) (by simp) ?_
  refine AllReadyH.cons rfl (fun K hK => ?_) AllReadyH.nil
  go_simp
  (go_at_call 25; refine (rscalars_any p q g [m, r, n, log] 4 _ _ rfl (by omega) (slAt_new4 W3 m r n log 1)).mono ?_; rintro e w' ⟨rfl, hw⟩; rw [HX.out])
  (try go_simp)
  refine hK.out _ _ ?_ (fun hHeld => ?_)
  · exact keep1n HC1.out l1' (by assumption) (by assumption)
  clear hK K
  (try simp only [Act.put, List.setIfInBounds_toArray, List.set_cons_zero, List.set_cons_succ])
  refine' wpAnyH_take1 (i := 8) (v := _) rfl rfl (by kernel_rfl) (by kernel_rfl) (by kernel_rfl) (fun _ _ _ h => h) (by rfl) ?hy8 (by assumption) ?hr8
  case hy8 => (intro w hSw; (try dsimp only at hSw); go_simp; (try with_reducible rfl))
  (try simp only [List.setIfInBounds_toArray, List.set_cons_zero, List.set_cons_succ])
  refine' wpAnyH_take1 (i := 9) (v := _) rfl rfl (by kernel_rfl) (by kernel_rfl) (by kernel_rfl) (fun _ _ _ h => h) (by rfl) ?hy9 (by assumption) ?hr9
  case hy9 => (intro w hSw; (try dsimp only at hSw); go_simp; (try with_reducible rfl))
  (try simp only [List.setIfInBounds_toArray, List.set_cons_zero, List.set_cons_succ])
  refine wpAnyH_dead (i := 10) rfl rfl (by kernel_rfl) (by kernel_rfl) (by kernel_rfl) (fun _ _ _ h => h) (by rfl) (by assumption) ?_
  (try simp only [List.setIfInBounds_toArray, List.set_cons_zero, List.set_cons_succ])
  refine wpAnyH_dead (i := 11) rfl rfl (by kernel_rfl) (by kernel_rfl) (by kernel_rfl) (fun _ _ _ h => h) (by rfl) (by assumption) ?_
  (try simp only [List.setIfInBounds_toArray, List.set_cons_zero, List.set_cons_succ])
  refine wpAnyH_dead (i := 12) rfl rfl (by kernel_rfl) (by kernel_rfl) (by kernel_rfl) (fun _ _ _ h => h) (by rfl) (by assumption) ?_
  (try simp only [List.setIfInBounds_toArray, List.set_cons_zero, List.set_cons_succ])
  refine wpAnyH_dead (i := 13) rfl rfl (by kernel_rfl) (by kernel_rfl) (by kernel_rfl) (fun _ _ _ h => h) (by rfl) (by assumption) ?_
  (try simp only [List.setIfInBounds_toArray, List.set_cons_zero, List.set_cons_succ])
  refine wpAnyH_dead (i := 14) rfl rfl (by kernel_rfl) (by kernel_rfl) (by kernel_rfl) (fun _ _ _ h => h) (by rfl) (by assumption) ?_
  (try simp only [List.setIfInBounds_toArray, List.set_cons_zero, List.set_cons_succ])
  refine wpAnyH_dead (i := 15) rfl rfl (by kernel_rfl) (by kernel_rfl) (by kernel_rfl) (fun _ _ _ h => h) (by rfl) (by assumption) ?_
  (try simp only [List.setIfInBounds_toArray, List.set_cons_zero, List.set_cons_succ])
  refine wpAnyH_dead (i := 16) rfl rfl (by kernel_rfl) (by kernel_rfl) (by kernel_rfl) (fun _ _ _ h => h) (by rfl) (by assumption) ?_
  (try simp only [List.setIfInBounds_toArray, List.set_cons_zero, List.set_cons_succ])
  refine wpAnyH_dead (i := 17) rfl rfl (by kernel_rfl) (by kernel_rfl) (by kernel_rfl) (fun _ _ _ h => h) (by rfl) (by assumption) ?_
  (try simp only [List.setIfInBounds_toArray, List.set_cons_zero, List.set_cons_succ])
  refine wpAnyH_dead (i := 18) rfl rfl (by kernel_rfl) (by kernel_rfl) (by kernel_rfl) (fun _ _ _ h => h) (by rfl) (by assumption) ?_
  (try simp only [List.setIfInBounds_toArray, List.set_cons_zero, List.set_cons_succ])
  refine wpAnyH_dead (i := 19) rfl rfl (by kernel_rfl) (by kernel_rfl) (by kernel_rfl) (fun _ _ _ h => h) (by rfl) (by assumption) ?_
  (try simp only [List.setIfInBounds_toArray, List.set_cons_zero, List.set_cons_succ])
  refine' wpAnyH_take1 (i := 20) (v := _) rfl rfl (by kernel_rfl) (by kernel_rfl) (by kernel_rfl) (fun _ _ _ h => h) (by rfl) ?hy20 (by assumption) ?hr20
  case hy20 => (intro w hSw; (try dsimp only at hSw); go_simp; (try with_reducible rfl))
  (try simp only [List.setIfInBounds_toArray, List.set_cons_zero, List.set_cons_succ])
  refine wpAnyH_done (by kernel_rfl) ?_ _
  obtain ⟨-, hk2⟩ := hHeld
  have hk3 := below_next hk hk2
  go_wp2
  go_ret
  exact ret_of rfl (below_next hb hk3)
set_option maxRecDepth 100000 in
set_option maxHeartbeats 2000000 in
/-- where the logarithm is another one -/
theorem lawo_log (hS : BSpec p q g g1 g2 h) (hT : Tabs w) (hx : [m, r, n, log].all (scB q) = true) (hl : ((g.toNat ^ log.toNat % p.toNat : Nat) : Int) ≠ h)
    (ho : ∀ w, Tabs w → Calls Tryd.prog 23 #[bV p q g g1 g2 h, .int .i64 m, .int .i64 r, .int .i64 n, .int .i64 log] w (Ret (.tuple #[.int .i64 0, .int .i64 2]) w)) :
    Calls Tryd.prog 5 #[bV p q g g1 g2 h, .int .i64 m, .int .i64 r, .int .i64 n, .int .i64 log] w (Ret (.bool true) w) := by
  have p3 := hS.G.p3; have pm := hS.G.pm; have q3 := hS.G.q3; have hqp := hS.G.qp
  have g2' := hS.G.g2; have gp' := hS.G.gp
  have hsl : scB q log = true := by simp at hx; exact hx.2.2.2
  obtain ⟨L0, Lq⟩ := scB_true.1 hsl
  have hv : bvalB p q g g1 g2 h = true := bvalB_true.2 hS
  obtain ⟨R, hR⟩ : ∃ R, R = g.toNat ^ (log % q).toNat % p.toNat := ⟨_, rfl⟩
  have hR2 : g.toNat ^ log.toNat % p.toNat = R := by rw [hR, Int.emod_eq_of_lt L0 Lq]
  rw [hR2] at hl
  have t0 : ((R : Int) == h) = false := by simp; exact hl
  have t1 : ((R : Int) != h) = true := by simp; exact hl
  obtain ⟨W2, hW2, hB1, l1, hb⟩ := one_box w #[.int .i64 p, .int .i64 q, .int .i64 g, .int .i64 g1, .int .i64 g2, .int .i64 h] 25
  have hT2 : Tabs W2 := by rw [hW2]; exact hT.alloc _
  have HV := Lib.hid hv; have HX := Lib.hid hx; have HG := Lib.hid hS.G; have HR := Lib.hid hR; have HO := Lib.hid ho
  clear hS hx hl hsl hR hR2 hv ho hT
  go_enter Tryd.func5, Tryd.ntmps5
  go_upto_region 1 with (fail)
  rw [← hW2]
  obtain ⟨B1, hB1'⟩ : ∃ B, B = w.heap.size := ⟨_, rfl⟩
  rw [← hB1'] at hB1 l1 ⊢
  have hk : Below W2.heap.size W2 W2 := Below.refl _ _
  have c1 := hB1
  have HB1 := Lib.hid hB1; have HT := Lib.hid hT2; have hT := hT2
  clear hW2 hB1' hB1 hT2
  go_upto_region 6 with (first
    | (go_at_call 22; refine (awake15_any _ (by assumption)).mono ?_; rintro e w' ⟨rfl, hw⟩; have hk := below_next hk hw; have c1 := box_keep HB1.out l1 hk; have hT := HT.out.below hk; clear hw)
    | (go_at_call 23; refine (HO.out _ (by assumption)).mono ?_; rintro e w' ⟨rfl, hw⟩; have hk := below_next hk hw; have c1 := box_keep HB1.out l1 hk; have hT := HT.out.below hk; clear hw)
    | (go_at_call 24; refine (rbvalid_any _ _ _ _ _ _ _).mono ?_; rintro e w' ⟨rfl, hw⟩; rw [HV.out]; have hk := below_next hk hw; have c1 := box_keep HB1.out l1 hk; have hT := HT.out.below hk; clear hw))
  obtain ⟨W3, hW3⟩ : ∃ W3, W3 = w' := ⟨_, rfl⟩
  subst hW3
  have l1' := Nat.lt_of_lt_of_le l1 hk.size
  have HC1 := Lib.hid c1
  clear hT c1
  (go_region_held3 (fun w' => (∀ j, w'.cell? ⟨B1, j, none⟩ = #[Value.int .i64 p, .int .i64 q, .int .i64 g, .int .i64 g1, .int .i64 g2, .int .i64 h][j]?) ∧ Below W3.heap.size W3 w')
    (first
      | exact ⟨HC1.out, (Below.refl _ _).drew⟩
      | exact keep1 HC1.out l1' ((Below.refl _ _).drew.alloc (Nat.le_refl _) _)
      | exact keep1n HC1.out l1' (by assumption) (by assumption))
    (first
      | (go_at_call 25; refine (rscalars_any p q g [m, r, n, log] 4 _ _ rfl (by omega) (slAt_new4 W3 m r n log 1)).mono ?_; rintro e w' ⟨rfl, hw⟩; rw [HX.out])
      | (go_at_call 19; refine (rgpow_any p q g g log _ HG.out (by omega) gp').mono ?_; rintro e w' ⟨rfl, hw⟩; rw [← HR.out])))
  all_goals (
    have hh : (∀ j, w'.cell? ⟨B1, j, none⟩ = #[Value.int .i64 p, .int .i64 q, .int .i64 g, .int .i64 g1, .int .i64 g2, .int .i64 h][j]?) ∧ Below W3.heap.size W3 w' := by assumption
    obtain ⟨c1, hk2⟩ := hh
    have hk3 := below_next hk hk2
    go_wp2
    go_ret
    exact ret_of rfl (below_next hb hk3))
theorem log_ne {log : Int} {w0 : World} (hS : BSpec p q g g1 g2 h) (hl : ((g.toNat ^ log.toNat % p.toNat : Nat) : Int) = h) (hs : scB q log = true) (_ : Tabs w0) : Nat.gcd log.toNat q.toNat = 1 := by
  have p3 := hS.G.p3; have q3 := hS.G.q3
  obtain ⟨L0, Lq⟩ := scB_true.1 hs
  refine gcd_pm hS.G.pmq ?_ (by omega)
  rcases Nat.eq_zero_or_pos log.toNat with e | e
  · exfalso
    rw [e, Nat.pow_zero, Nat.mod_eq_of_lt (by omega)] at hl
    exact hS.n3 hl.symm
  · exact e
theorem lawO_any (hp : -9223372036854775808 ≤ p) (hp2 : p ≤ 9223372036854775807) (hq : -9223372036854775808 ≤ q) (hq2 : q ≤ 9223372036854775807) (hT : Tabs w) :
    Calls Tryd.prog 5 #[bV p q g g1 g2 h, .int .i64 m, .int .i64 r, .int .i64 n, .int .i64 log] w (Ret (.bool true) w) := by
  cases c0 : bvalB p q g g1 g2 h
  · exact lawo_arg p q g g1 g2 h m r n log w hT c0 (fun w hT => other_bad p q g g1 g2 h m r n log w 1 hp hp2 hq hq2 hT (givenE_arg c0) (by decide))
  · have hS := bvalB_true.1 c0
    cases c1 : [m, r, n, log].all (scB q)
    · exact lawo_range p q g g1 g2 h m r n log w hS hT c1 (fun w hT => other_bad p q g g1 g2 h m r n log w 2 hp hp2 hq hq2 hT (givenE_range c0 c1) (by decide))
    · by_cases hl : ((g.toNat ^ log.toNat % p.toNat : Nat) : Int) = h
      · have hsl : scB q log = true := by have := c1; simp at this; exact this.2.2.2
        have hgcd := log_ne p q g g1 g2 h hS hl hsl hT
        have q3 := hS.G.q3; have hqp := hS.G.qp; have pm := hS.G.pm
        exact lawo_ok p q g g1 g2 h m r n log w _ hS hT c1 hl (fun w hT => other_ok p q g g1 g2 h m r n log w hS hT c1 hl hgcd) (fun w => rother_any p q g g1 g2 h m r n log w q3 (by omega) c1 hgcd)
      · exact lawo_log p q g g1 g2 h m r n log w hS hT c1 hl (fun w hT => other_log p q g g1 g2 h m r n log w hS hT c1 hl)
end
end Go.Proofs.YtogbdnecpdcmiaaDoor
