/-
  The law PedersenHides, walked.
-/
import Derived.Test.YtogbdnecpdcmiaaDoorP2
import Derived.Test.YtogbdnecpdcmiaaDoorJ3
/-
  The law PedersenHides returns true for all arguments.
-/
namespace Go.Proofs.YtogbdnecpdcmiaaDoor
open Go Go.RowKit
section
variable (p q g g1 g2 h c m : Int) (w : World)
set_option maxRecDepth 100000 in
set_option maxHeartbeats 4000000 in
/-- where nothing is asked -/
theorem lawh_quit (hT : Tabs w) (hc : bvalB p q g g1 g2 h = false ∨ (BSpec p q g g1 g2 h ∧ 113 < q) ∨ (BSpec p q g g1 g2 h ∧ q ≤ 113 ∧ memB p q c = false) ∨ (BSpec p q g g1 g2 h ∧ q ≤ 113 ∧ memB p q c = true ∧ scB q m = false)) :
    Calls Tryd.prog 6 #[bV p q g g1 g2 h, .int .i64 c, .int .i64 m] w (Ret (.bool true) w) := by
  obtain ⟨W2, hW2, hB1, l1, hb⟩ := one_box w #[.int .i64 p, .int .i64 q, .int .i64 g, .int .i64 g1, .int .i64 g2, .int .i64 h] 25
  have hT2 : Tabs W2 := by rw [hW2]; exact hT.alloc _
  clear hT
  go_enter Tryd.func6, Tryd.ntmps6
  go_upto_region 1 with (fail)
  rw [← hW2]
  obtain ⟨B1, hB1'⟩ : ∃ B, B = w.heap.size := ⟨_, rfl⟩
  rw [← hB1'] at hB1 l1 ⊢
  have hk : Below W2.heap.size W2 W2 := Below.refl _ _
  have c1 := hB1
  have HB1 := Lib.hid hB1; have HT := Lib.hid hT2; have hT := hT2
  clear hW2 hB1' hB1 hT2
  rcases hc with h0 | ⟨hS, h0⟩ | ⟨hS, h1, h0⟩ | ⟨hS, h1, h2, h0⟩
  · have HV := Lib.hid h0
    clear h0
    go_wp2_with (first
      | (go_at_call 22; refine (awake15_any _ (by assumption)).mono ?_; rintro e w' ⟨rfl, hw⟩; have hk := below_next hk hw; have c1 := box_keep HB1.out l1 hk; have hT := HT.out.below hk; clear hw)
      | (go_at_call 24; refine (rbvalid_any _ _ _ _ _ _ _).mono ?_; rintro e w' ⟨rfl, hw⟩; rw [HV.out]; have hk := below_next hk hw; have c1 := box_keep HB1.out l1 hk; have hT := HT.out.below hk; clear hw))
    go_ret
    exact ret_of rfl (below_next hb hk)
  · have HV := Lib.hid (bvalB_true.2 hS)
    have t1 : decide ((113 : Int) < q) = true := by simp; exact h0
    clear h0 hS
    go_wp2_with (first
      | (go_at_call 22; refine (awake15_any _ (by assumption)).mono ?_; rintro e w' ⟨rfl, hw⟩; have hk := below_next hk hw; have c1 := box_keep HB1.out l1 hk; have hT := HT.out.below hk; clear hw)
      | (go_at_call 24; refine (rbvalid_any _ _ _ _ _ _ _).mono ?_; rintro e w' ⟨rfl, hw⟩; rw [HV.out]; have hk := below_next hk hw; have c1 := box_keep HB1.out l1 hk; have hT := HT.out.below hk; clear hw))
    go_ret
    exact ret_of rfl (below_next hb hk)
  · have HV := Lib.hid (bvalB_true.2 hS)
    have t1 : decide ((113 : Int) < q) = false := by simp; omega
    have HG := Lib.hid hS.G; have H0 := Lib.hid h0
    clear h0 h1 hS
    go_wp2_with (first
      | (go_at_call 22; refine (awake15_any _ (by assumption)).mono ?_; rintro e w' ⟨rfl, hw⟩; have hk := below_next hk hw; have c1 := box_keep HB1.out l1 hk; have hT := HT.out.below hk; clear hw)
      | (go_at_call 24; refine (rbvalid_any _ _ _ _ _ _ _).mono ?_; rintro e w' ⟨rfl, hw⟩; rw [HV.out]; have hk := below_next hk hw; have c1 := box_keep HB1.out l1 hk; have hT := HT.out.below hk; clear hw)
      | (go_at_call 27; refine (rmember_any _ _ _ _ _ HG.out).mono ?_; rintro e w' ⟨rfl, hw⟩; rw [H0.out]; have hk := below_next hk hw; have c1 := box_keep HB1.out l1 hk; have hT := HT.out.below hk; clear hw))
    go_ret
    exact ret_of rfl (below_next hb hk)
  · have HV := Lib.hid (bvalB_true.2 hS)
    have t1 : decide ((113 : Int) < q) = false := by simp; omega
    have HG := Lib.hid hS.G; have H0 := Lib.hid h0; have H2 := Lib.hid h2
    clear h0 h1 h2 hS
    go_wp2_with (first
      | (go_at_call 22; refine (awake15_any _ (by assumption)).mono ?_; rintro e w' ⟨rfl, hw⟩; have hk := below_next hk hw; have c1 := box_keep HB1.out l1 hk; have hT := HT.out.below hk; clear hw)
      | (go_at_call 24; refine (rbvalid_any _ _ _ _ _ _ _).mono ?_; rintro e w' ⟨rfl, hw⟩; rw [HV.out]; have hk := below_next hk hw; have c1 := box_keep HB1.out l1 hk; have hT := HT.out.below hk; clear hw)
      | (go_at_call 27; refine (rmember_any _ _ _ _ _ HG.out).mono ?_; rintro e w' ⟨rfl, hw⟩; rw [H2.out]; have hk := below_next hk hw; have c1 := box_keep HB1.out l1 hk; have hT := HT.out.below hk; clear hw)
      | (go_at_call 28; refine (rscalar15_any _ _ _ _ _).mono ?_; rintro e w' ⟨rfl, hw⟩; rw [H0.out]; have hk := below_next hk hw; have c1 := box_keep HB1.out l1 hk; have hT := HT.out.below hk; clear hw))
    go_ret
    exact ret_of rfl (below_next hb hk)
set_option maxRecDepth 100000 in
set_option maxHeartbeats 4000000 in
theorem lawh_walk (r0 : Nat) (hS : BSpec p q g g1 g2 h) (hT : Tabs w) (hq : q ≤ 113) (hc : memB p q c = true) (hm : scB q m = true) (hr0 : (r0 : Int) < q)
    (hopen : ∀ (r : Nat) (w : World), (r : Int) < q → Tabs w → Calls Tryd.prog 29 #[bV p q g g1 g2 h, .int .i64 c, .int .i64 m, .int .i64 r] w (Ret (.bool (decide (r = r0))) w)) :
    Calls Tryd.prog 6 #[bV p q g g1 g2 h, .int .i64 c, .int .i64 m] w (Ret (.bool true) w) := by
  have q3 := hS.G.q3
  obtain ⟨W2, hW2, hB1, l1, hb⟩ := one_box w #[.int .i64 p, .int .i64 q, .int .i64 g, .int .i64 g1, .int .i64 g2, .int .i64 h] 25
  have hT2 : Tabs W2 := by rw [hW2]; exact hT.alloc _
  have HV := Lib.hid (bvalB_true.2 hS)
  have t1 : decide ((113 : Int) < q) = false := by simp; omega
  have HG := Lib.hid hS.G; have HC := Lib.hid hc; have HM := Lib.hid hm; have HO := Lib.hid hopen
  clear hT hS hc hm hopen
  go_enter Tryd.func6, Tryd.ntmps6
  go_upto_region 1 with (fail)
  rw [← hW2]
  obtain ⟨B1, hB1'⟩ : ∃ B, B = w.heap.size := ⟨_, rfl⟩
  rw [← hB1'] at hB1 l1 ⊢
  have hk : Below W2.heap.size W2 W2 := Below.refl _ _
  have c1 := hB1
  have HB1 := Lib.hid hB1; have HT := Lib.hid hT2; have hT := hT2
  clear hW2 hB1' hB1 hT2
  go_wp2_with (first
    | (go_at_call 22; refine (awake15_any _ (by assumption)).mono ?_; rintro e w' ⟨rfl, hw⟩; have hk := below_next hk hw; have c1 := box_keep HB1.out l1 hk; have hT := HT.out.below hk; clear hw)
    | (go_at_call 24; refine (rbvalid_any _ _ _ _ _ _ _).mono ?_; rintro e w' ⟨rfl, hw⟩; rw [HV.out]; have hk := below_next hk hw; have c1 := box_keep HB1.out l1 hk; have hT := HT.out.below hk; clear hw)
    | (go_at_call 27; refine (rmember_any _ _ _ _ _ HG.out).mono ?_; rintro e w' ⟨rfl, hw⟩; rw [HC.out]; have hk := below_next hk hw; have c1 := box_keep HB1.out l1 hk; have hT := HT.out.below hk; clear hw)
    | (go_at_call 28; refine (rscalar15_any _ _ _ _ _).mono ?_; rintro e w' ⟨rfl, hw⟩; rw [HM.out]; have hk := below_next hk hw; have c1 := box_keep HB1.out l1 hk; have hT := HT.out.below hk; clear hw))
  clear c1 hT
  go_loopw [7, 8, 40] (fun vn _ vi wr => ∃ i : Nat, vi = .int .i64 i ∧ (i : Int) ≤ q ∧ vn = .int .i64 ((if r0 < i then 1 else 0 : Nat) : Int) ∧ Below W2.heap.size W2 wr) (fun _ _ vi _ => (q - intOf vi).toNat)
  case atStart => exact ⟨0, rfl, by omega, by rw [if_neg (by omega)]; rfl, hk⟩
  case round =>
    obtain ⟨i, rfl, hi, rfl, hk⟩ := hrel
    have c1 := box_keep HB1.out l1 hk
    have hT := HT.out.below hk
    by_cases hlt : (i : Int) < q
    · by_cases e : i = r0
      · have e1 : (if r0 < i then 1 else 0) = 0 := by rw [if_neg (by omega)]
        have e2 : (if r0 < i + 1 then 1 else 0) = 1 := by rw [if_pos (by omega)]
        have ed : decide (i = r0) = true := by simp; exact e
        rw [e1]
        have E2 := Lib.hid e2; have ED := Lib.hid ed
        clear e1 e2 ed e
        go_wp2_with (go_at_call 29; refine (HO.out i _ hlt (by assumption)).mono ?_; rintro e w' ⟨rfl, hw⟩; rw [ED.out]; have hk := below_next hk hw; clear hw)
        go_roundw
        case rel => exact ⟨i + 1, by go_num, by omega, by rw [E2.out]; rfl, hk⟩
        case measure => simp [intOf]; omega
      · obtain ⟨v, hv⟩ : ∃ v : Nat, v = if r0 < i then 1 else 0 := ⟨_, rfl⟩
        have e2 : (if r0 < i + 1 then 1 else 0) = v := by
          rw [hv]; by_cases h5 : r0 < i
          · rw [if_pos (by omega), if_pos h5]
          · rw [if_neg (by omega), if_neg h5]
        have ed : decide (i = r0) = false := by simp; exact e
        rw [← hv]
        have E2 := Lib.hid e2; have ED := Lib.hid ed
        clear hv e2 ed e
        go_wp2_with (go_at_call 29; refine (HO.out i _ hlt (by assumption)).mono ?_; rintro e w' ⟨rfl, hw⟩; rw [ED.out]; have hk := below_next hk hw; clear hw)
        go_roundw
        case rel => exact ⟨i + 1, by go_num, by omega, by rw [E2.out], hk⟩
        case measure => simp [intOf]; omega
    · have e1 : (if r0 < i then 1 else 0) = 1 := by rw [if_pos (by omega)]
      rw [e1]
      clear e1
      go_wp2
      go_ret
      exact ret_of rfl (below_next hb hk)
theorem lawH_any (hp : -9223372036854775808 ≤ p) (hp2 : p ≤ 9223372036854775807) (hq : -9223372036854775808 ≤ q) (hq2 : q ≤ 9223372036854775807) (hT : Tabs w) :
    Calls Tryd.prog 6 #[bV p q g g1 g2 h, .int .i64 c, .int .i64 m] w (Ret (.bool true) w) := by
  cases c0 : bvalB p q g g1 g2 h
  · exact lawh_quit p q g g1 g2 h c m w hT (Or.inl c0)
  · have hS := bvalB_true.1 c0
    by_cases h1 : 113 < q
    · exact lawh_quit p q g g1 g2 h c m w hT (Or.inr (Or.inl ⟨hS, h1⟩))
    · cases c1 : memB p q c
      · exact lawh_quit p q g g1 g2 h c m w hT (Or.inr (Or.inr (Or.inl ⟨hS, by omega, c1⟩)))
      · cases c2 : scB q m
        · exact lawh_quit p q g g1 g2 h c m w hT (Or.inr (Or.inr (Or.inr ⟨hS, by omega, c1, c2⟩)))
        · have p3 := hS.G.p3; have q3 := hS.G.q3
          obtain ⟨a1, a2, a3⟩ := memB_true.1 c1
          obtain ⟨r0, hr0, hh⟩ := hides (p := p.toNat) (q := q.toNat) (g := g.toNat) (h := h.toNat) (c := c.toNat) hS.G.pmp hS.G.pw (hS.G.cyc hS.m3 hS.n3) a3 (by omega) m.toNat
          refine lawh_walk p q g g1 g2 h c m w r0 hS hT (by omega) c1 c2 (by omega) (fun r w hr hT => ?_)
          have h5 := open_ok p q g g1 g2 h c m r w hS hT c2 (scB_true.2 ⟨by omega, hr⟩)
          rw [show decide (c = (commN p.toNat g.toNat h.toNat m.toNat (r : Int).toNat : Nat)) = decide (r = r0) from ?_] at h5
          · exact h5
          · rw [decide_eq_decide, Int.toNat_natCast, ← hh r (by omega)]
            omega
end
end Go.Proofs.YtogbdnecpdcmiaaDoor
