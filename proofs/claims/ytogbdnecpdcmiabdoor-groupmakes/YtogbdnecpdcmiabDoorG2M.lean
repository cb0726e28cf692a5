/-
  The law GroupMakes, walked.
-/
import Derived.Test.YtogbdnecpdcmiabDoorG1
/-
  The law GroupMakes returns true for all arguments.
-/
namespace Go.Proofs.YtogbdnecpdcmiabDoor
open Go Go.RowKit
theorem make_big {q P Q G E : Int} (h : MakeR q P Q G E) (hq : 2305843009213693952 ≤ q) : P = 0 ∧ Q = 0 ∧ G = 0 ∧ (E = 1 ∨ E = 9) := by
  rcases h with ⟨_, rfl, rfl, rfl, rfl⟩ | ⟨_, _, _, rfl, rfl, rfl, rfl⟩ | ⟨_, _, k, h, b1, b2, _⟩
  · exact ⟨rfl, rfl, rfl, Or.inl rfl⟩
  · exact ⟨rfl, rfl, rfl, Or.inr rfl⟩
  · exfalso
    have : mkK q = 0 := Nat.div_eq_of_lt (by omega)
    omega
theorem make_err {q P Q G E : Int} (h : MakeR q P Q G E) : (E = 0 ∧ GSpec P Q G) ∨ E ≠ 0 := by
  by_cases h0 : E = 0
  · exact Or.inl ⟨h0, h.valid h0⟩
  · exact Or.inr h0
set_option maxRecDepth 100000 in
set_option maxHeartbeats 1000000 in
theorem lawM_any (q : Int) (w : World) (q0 : -9223372036854775808 ≤ q) (q1 : q ≤ 9223372036854775807) (hT : Tabs w) : Calls Tryd.prog 3 #[.int .i64 q] w (Ret (.bool true) w) := by
  have hk : Below w.heap.size w w := Below.refl _ _
  have HT := Lib.hid hT
  by_cases hbig : 2305843009213693952 ≤ q
  · have t0 : decide (1099511627776 < q) = true := by simp; omega
    have t1 : decide (q < 2305843009213693952) = false := by simp; omega
    have t2 : decide (2305843009213693952 ≤ q) = true := by simp; omega
    go_enter Tryd.func3, Tryd.ntmps3
    go_upto_region 7 with (first
      | (go_at_call 6; refine (awake10_any _ (by assumption)).mono ?_; rintro e w' ⟨rfl, hw⟩; have hk := below_next hk hw; have hT := HT.out.below hk; clear hw)
      | (go_at_call 7; refine (gmake_any _ _ q0 q1 (by assumption)).mono ?_; rintro e w' ⟨P, Q, G, E, hm, rfl, hw⟩; obtain ⟨rfl, rfl, rfl, hE⟩ := make_big hm hbig; have hk := below_next hk hw; have hT := HT.out.below hk; clear hw))
    obtain ⟨W7, hW7, hB7, l7, hb7⟩ := one_box w' #[.int .i64 0, .int .i64 0, .int .i64 0] 24
    rw [← hW7]
    have hk := below_next hk hb7
    obtain ⟨B7, hB7'⟩ : ∃ B, B = w'.heap.size := ⟨_, rfl⟩
    rw [← hB7'] at hB7 l7 ⊢
    clear hW7 hB7' hT
    rcases hE with rfl | rfl
    all_goals
      go_wp2
      go_ret
      exact ret_of rfl hk
  · by_cases hgap : 1099511627776 < q
    · have t0 : decide (1099511627776 < q) = true := by simp; omega
      have t1 : decide (q < 2305843009213693952) = true := by simp; omega
      go_enter Tryd.func3, Tryd.ntmps3
      go_wp2_with (go_at_call 6; refine (awake10_any _ (by assumption)).mono ?_; rintro e w' ⟨rfl, hw⟩; have hk := below_next hk hw; have hT := HT.out.below hk; clear hw)
      go_ret
      exact ret_of rfl hk
    · have t0 : decide (1099511627776 < q) = false := by simp; omega
      have t2 : decide (2305843009213693952 ≤ q) = false := by simp; omega
      go_enter Tryd.func3, Tryd.ntmps3
      go_upto_region 9 with (first
        | (go_at_call 6; refine (awake10_any _ (by assumption)).mono ?_; rintro e w' ⟨rfl, hw⟩; have hk := below_next hk hw; have hT := HT.out.below hk; clear hw)
        | (go_at_call 7; refine (gmake_any _ _ q0 q1 (by assumption)).mono ?_; rintro e w' ⟨P, Q, G, E, hm, rfl, hw⟩; have HM := Lib.hid hm; clear hm; have hk := below_next hk hw; have hT := HT.out.below hk; clear hw))
      obtain ⟨W7, hW7, hB7, l7, hb7⟩ := one_box w' #[.int .i64 P, .int .i64 Q, .int .i64 G] 24
      rw [← hW7]
      have hk7 := below_next hk hb7
      obtain ⟨B7, hB7'⟩ : ∃ B, B = w'.heap.size := ⟨_, rfl⟩
      rw [← hB7'] at hB7 l7 ⊢
      have HB7 := Lib.hid hB7
      have hk2 : Below W7.heap.size W7 W7 := Below.refl _ _
      clear hW7 hB7' hT hb7 hB7 hk
      go_upto_region 10 with (first
        | (go_at_call 8; refine (rmake_any _ _ q0 (by omega)).mono ?_; rintro e w' ⟨P', Q', G', E', hm, rfl, hw⟩; obtain ⟨rfl, rfl, rfl, rfl⟩ := HM.out.unique hm; clear hm; have hk2 := below_next hk2 hw; clear hw))
      obtain ⟨W8, hW8, hB8, l8, hb8⟩ := one_box w' #[.int .i64 P, .int .i64 Q, .int .i64 G] 24
      rw [← hW8]
      have hk2 := below_next hk2 hb8
      have c7 := box_keep HB7.out l7 hk2
      obtain ⟨B8, hB8'⟩ : ∃ B, B = w'.heap.size := ⟨_, rfl⟩
      rw [← hB8'] at hB8 l8 ⊢
      have hT := (HT.out.below hk7).below hk2
      have hk := below_next hk7 hk2
      clear hW8 hB8' hb8
      have tE : (E == E) = true := by simp
      rcases make_err HM.out with ⟨rfl, hG⟩ | hE
      · have hgv : gvalB P Q G = true := gvalB_true.2 hG
        have hr : -9223372036854775808 ≤ P ∧ P ≤ 9223372036854775807 ∧ -9223372036854775808 ≤ Q ∧ Q ≤ 9223372036854775807 := by
          have := hG.p3; have := hG.pm; have := hG.q3; have := hG.qp; omega
        obtain ⟨r1, r2, r3, r4⟩ := hr
        have HGV := Lib.hid hgv
        clear hgv hG
        go_wp2_with (go_at_call 9; refine (gvalid_any _ _ _ _ r1 r2 r3 r4 (by assumption)).mono ?_; rintro e w' ⟨rfl, hw⟩; rw [HGV.out]; have hk := below_next hk hw; clear hw)
        go_ret
        exact ret_of rfl hk
      · have tE0 : (E != 0) = true := by simpa using hE
        go_wp2
        go_ret
        exact ret_of rfl hk
end Go.Proofs.YtogbdnecpdcmiabDoor
